/-
Lifted functions: what the machine does, one equation for each entry and each loop (printed by lift.py).
-/
import Derived.Test.YtlfndndmegjnlaaDoorSigD
namespace Go.Abs.TD
open Go Go.Abs Go.Proofs
/-! ref21_behind -/
set_option maxRecDepth 100000 in
theorem ref21_behind_eq {R : Type} (w : C_ref21_behind) (L : Nat) (kind1 : Int) (rest2 : ByteArray) (σ : Heap) (K : AVal → Heap → Option R) :
    callC T (O_ref21_behind w) L 2 21 [.int .i64 kind1, .str rest2] σ K =
    bif (kind1 == 3) then (
      bif (kind1 == 3) then (
        (w.ref21_number rest2 σ).bind fun q3 =>
        bif (!q3.1.2) then (
          K (.tuple [.agg [.int .i64 0, .int .i64 0, .int .i64 0, .str (⟨#[]⟩ : ByteArray)], .int .i64 1]) q3.2)
        else
        K (.tuple [.agg [.int .i64 kind1, .int .i64 q3.1.1, .int .i64 0, .str (⟨#[]⟩ : ByteArray)], .int .i64 0]) q3.2)
      else
      bif (kind1 == 7) then (
        bif (kind1 == 7) then (
          (w.ref21_pair rest2 σ).bind fun q4 =>
          bif (!q4.1.2.2) then (
            K (.tuple [.agg [.int .i64 0, .int .i64 0, .int .i64 0, .str (⟨#[]⟩ : ByteArray)], .int .i64 1]) q4.2)
          else
          K (.tuple [.agg [.int .i64 kind1, .int .i64 q4.1.1, .int .i64 q4.1.2.1, .str (⟨#[]⟩ : ByteArray)], .int .i64 0]) q4.2)
        else
        bif (kind1 == 4) then (
          bif (kind1 == 4) then (
            bif (decide ((rest2.size : Int) > 40)) then (
              K (.tuple [.agg [.int .i64 0, .int .i64 0, .int .i64 0, .str (⟨#[]⟩ : ByteArray)], .int .i64 2]) σ)
            else
            K (.tuple [.agg [.int .i64 kind1, .int .i64 0, .int .i64 0, .str rest2], .int .i64 0]) σ)
          else
          bif (kind1 == 17) then (
            bif ((rest2.size : Int) == 1) then (
              bif (decide (0 < (rest2.size : Int))) then (
                bif (decide (((rest2.data.toList.getD 0 0).toNat : Int) ≥ 33)) then (
                  bif (decide (0 < (rest2.size : Int))) then (
                    bif (decide (((rest2.data.toList.getD 0 0).toNat : Int) ≤ 126)) then (
                      bif (decide (0 < (rest2.size : Int))) then (
                        K (.tuple [.agg [.int .i64 kind1, .int .i64 (IntKind.i64.wrap ((rest2.data.toList.getD 0 0).toNat : Int)), .int .i64 0, .str (⟨#[]⟩ : ByteArray)], .int .i64 0]) σ)
                      else
                      none)
                    else K (.tuple [.agg [.int .i64 0, .int .i64 0, .int .i64 0, .str (⟨#[]⟩ : ByteArray)], .int .i64 1]) σ)
                  else none)
                else K (.tuple [.agg [.int .i64 0, .int .i64 0, .int .i64 0, .str (⟨#[]⟩ : ByteArray)], .int .i64 1]) σ)
              else none)
            else K (.tuple [.agg [.int .i64 0, .int .i64 0, .int .i64 0, .str (⟨#[]⟩ : ByteArray)], .int .i64 1]) σ)
          else
          bif (kind1 == 16) then (
            bif (decide ((rest2.size : Int) < 2)) then (
              K (.tuple [.agg [.int .i64 0, .int .i64 0, .int .i64 0, .str (⟨#[]⟩ : ByteArray)], .int .i64 1]) σ)
            else
            bif (decide (0 < (rest2.size : Int))) then (
              bif (decide (((rest2.data.toList.getD 0 0).toNat : Int) < 33)) then (
                K (.tuple [.agg [.int .i64 0, .int .i64 0, .int .i64 0, .str (⟨#[]⟩ : ByteArray)], .int .i64 1]) σ)
              else
              bif (decide (0 < (rest2.size : Int))) then (
                bif (decide (((rest2.data.toList.getD 0 0).toNat : Int) > 126)) then (
                  K (.tuple [.agg [.int .i64 0, .int .i64 0, .int .i64 0, .str (⟨#[]⟩ : ByteArray)], .int .i64 1]) σ)
                else
                bif (decide (1 < (rest2.size : Int))) then (
                  bif (((rest2.data.toList.getD 1 0).toNat : Int) != 32) then (
                    K (.tuple [.agg [.int .i64 0, .int .i64 0, .int .i64 0, .str (⟨#[]⟩ : ByteArray)], .int .i64 1]) σ)
                  else
                  bif (decide ((rest2.size : Int) > 42)) then (
                    K (.tuple [.agg [.int .i64 0, .int .i64 0, .int .i64 0, .str (⟨#[]⟩ : ByteArray)], .int .i64 2]) σ)
                  else
                  bif ((decide (2 ≤ (rest2.size : Int))) && (decide ((rest2.size : Int) ≤ (rest2.size : Int)))) then (
                    (w.ref21_Parse (rest2.extract 2 rest2.size) σ).bind fun q5 =>
                    bif (decide (0 < (rest2.size : Int))) then (
                      bif ((decide (2 ≤ (rest2.size : Int))) && (decide ((rest2.size : Int) ≤ (rest2.size : Int)))) then (
                        bif (q5.1.2 == 0) then (
                          bif (!(decide (q5.1.1.Kind < 16))) then (
                            K (.tuple [.agg [.int .i64 0, .int .i64 0, .int .i64 0, .str (⟨#[]⟩ : ByteArray)], .int .i64 1]) q5.2)
                          else
                          K (.tuple [.agg [.int .i64 kind1, .int .i64 (IntKind.i64.wrap ((rest2.data.toList.getD 0 0).toNat : Int)), .int .i64 0, .str (rest2.extract 2 rest2.size)], .int .i64 0]) q5.2)
                        else K (.tuple [.agg [.int .i64 0, .int .i64 0, .int .i64 0, .str (⟨#[]⟩ : ByteArray)], .int .i64 1]) q5.2)
                      else none)
                    else none)
                  else none)
                else none)
              else none)
            else none)
          else K (.tuple [.agg [.int .i64 0, .int .i64 0, .int .i64 0, .str (⟨#[]⟩ : ByteArray)], .int .i64 1]) σ)
        else
        bif (kind1 == 6) then (
          bif (decide ((rest2.size : Int) > 40)) then (
            K (.tuple [.agg [.int .i64 0, .int .i64 0, .int .i64 0, .str (⟨#[]⟩ : ByteArray)], .int .i64 2]) σ)
          else
          K (.tuple [.agg [.int .i64 kind1, .int .i64 0, .int .i64 0, .str rest2], .int .i64 0]) σ)
        else
        bif (kind1 == 17) then (
          bif ((rest2.size : Int) == 1) then (
            bif (decide (0 < (rest2.size : Int))) then (
              bif (decide (((rest2.data.toList.getD 0 0).toNat : Int) ≥ 33)) then (
                bif (decide (0 < (rest2.size : Int))) then (
                  bif (decide (((rest2.data.toList.getD 0 0).toNat : Int) ≤ 126)) then (
                    bif (decide (0 < (rest2.size : Int))) then (
                      K (.tuple [.agg [.int .i64 kind1, .int .i64 (IntKind.i64.wrap ((rest2.data.toList.getD 0 0).toNat : Int)), .int .i64 0, .str (⟨#[]⟩ : ByteArray)], .int .i64 0]) σ)
                    else
                    none)
                  else K (.tuple [.agg [.int .i64 0, .int .i64 0, .int .i64 0, .str (⟨#[]⟩ : ByteArray)], .int .i64 1]) σ)
                else none)
              else K (.tuple [.agg [.int .i64 0, .int .i64 0, .int .i64 0, .str (⟨#[]⟩ : ByteArray)], .int .i64 1]) σ)
            else none)
          else K (.tuple [.agg [.int .i64 0, .int .i64 0, .int .i64 0, .str (⟨#[]⟩ : ByteArray)], .int .i64 1]) σ)
        else
        bif (kind1 == 16) then (
          bif (decide ((rest2.size : Int) < 2)) then (
            K (.tuple [.agg [.int .i64 0, .int .i64 0, .int .i64 0, .str (⟨#[]⟩ : ByteArray)], .int .i64 1]) σ)
          else
          bif (decide (0 < (rest2.size : Int))) then (
            bif (decide (((rest2.data.toList.getD 0 0).toNat : Int) < 33)) then (
              K (.tuple [.agg [.int .i64 0, .int .i64 0, .int .i64 0, .str (⟨#[]⟩ : ByteArray)], .int .i64 1]) σ)
            else
            bif (decide (0 < (rest2.size : Int))) then (
              bif (decide (((rest2.data.toList.getD 0 0).toNat : Int) > 126)) then (
                K (.tuple [.agg [.int .i64 0, .int .i64 0, .int .i64 0, .str (⟨#[]⟩ : ByteArray)], .int .i64 1]) σ)
              else
              bif (decide (1 < (rest2.size : Int))) then (
                bif (((rest2.data.toList.getD 1 0).toNat : Int) != 32) then (
                  K (.tuple [.agg [.int .i64 0, .int .i64 0, .int .i64 0, .str (⟨#[]⟩ : ByteArray)], .int .i64 1]) σ)
                else
                bif (decide ((rest2.size : Int) > 42)) then (
                  K (.tuple [.agg [.int .i64 0, .int .i64 0, .int .i64 0, .str (⟨#[]⟩ : ByteArray)], .int .i64 2]) σ)
                else
                bif ((decide (2 ≤ (rest2.size : Int))) && (decide ((rest2.size : Int) ≤ (rest2.size : Int)))) then (
                  (w.ref21_Parse (rest2.extract 2 rest2.size) σ).bind fun q6 =>
                  bif (decide (0 < (rest2.size : Int))) then (
                    bif ((decide (2 ≤ (rest2.size : Int))) && (decide ((rest2.size : Int) ≤ (rest2.size : Int)))) then (
                      bif (q6.1.2 == 0) then (
                        bif (!(decide (q6.1.1.Kind < 16))) then (
                          K (.tuple [.agg [.int .i64 0, .int .i64 0, .int .i64 0, .str (⟨#[]⟩ : ByteArray)], .int .i64 1]) q6.2)
                        else
                        K (.tuple [.agg [.int .i64 kind1, .int .i64 (IntKind.i64.wrap ((rest2.data.toList.getD 0 0).toNat : Int)), .int .i64 0, .str (rest2.extract 2 rest2.size)], .int .i64 0]) q6.2)
                      else K (.tuple [.agg [.int .i64 0, .int .i64 0, .int .i64 0, .str (⟨#[]⟩ : ByteArray)], .int .i64 1]) q6.2)
                    else none)
                  else none)
                else none)
              else none)
            else none)
          else none)
        else K (.tuple [.agg [.int .i64 0, .int .i64 0, .int .i64 0, .str (⟨#[]⟩ : ByteArray)], .int .i64 1]) σ)
      else
      bif (kind1 == 13) then (
        (w.ref21_pair rest2 σ).bind fun q7 =>
        bif (!q7.1.2.2) then (
          K (.tuple [.agg [.int .i64 0, .int .i64 0, .int .i64 0, .str (⟨#[]⟩ : ByteArray)], .int .i64 1]) q7.2)
        else
        K (.tuple [.agg [.int .i64 kind1, .int .i64 q7.1.1, .int .i64 q7.1.2.1, .str (⟨#[]⟩ : ByteArray)], .int .i64 0]) q7.2)
      else
      bif (kind1 == 4) then (
        bif (kind1 == 4) then (
          bif (decide ((rest2.size : Int) > 40)) then (
            K (.tuple [.agg [.int .i64 0, .int .i64 0, .int .i64 0, .str (⟨#[]⟩ : ByteArray)], .int .i64 2]) σ)
          else
          K (.tuple [.agg [.int .i64 kind1, .int .i64 0, .int .i64 0, .str rest2], .int .i64 0]) σ)
        else
        bif (kind1 == 17) then (
          bif ((rest2.size : Int) == 1) then (
            bif (decide (0 < (rest2.size : Int))) then (
              bif (decide (((rest2.data.toList.getD 0 0).toNat : Int) ≥ 33)) then (
                bif (decide (0 < (rest2.size : Int))) then (
                  bif (decide (((rest2.data.toList.getD 0 0).toNat : Int) ≤ 126)) then (
                    bif (decide (0 < (rest2.size : Int))) then (
                      K (.tuple [.agg [.int .i64 kind1, .int .i64 (IntKind.i64.wrap ((rest2.data.toList.getD 0 0).toNat : Int)), .int .i64 0, .str (⟨#[]⟩ : ByteArray)], .int .i64 0]) σ)
                    else
                    none)
                  else K (.tuple [.agg [.int .i64 0, .int .i64 0, .int .i64 0, .str (⟨#[]⟩ : ByteArray)], .int .i64 1]) σ)
                else none)
              else K (.tuple [.agg [.int .i64 0, .int .i64 0, .int .i64 0, .str (⟨#[]⟩ : ByteArray)], .int .i64 1]) σ)
            else none)
          else K (.tuple [.agg [.int .i64 0, .int .i64 0, .int .i64 0, .str (⟨#[]⟩ : ByteArray)], .int .i64 1]) σ)
        else
        bif (kind1 == 16) then (
          bif (decide ((rest2.size : Int) < 2)) then (
            K (.tuple [.agg [.int .i64 0, .int .i64 0, .int .i64 0, .str (⟨#[]⟩ : ByteArray)], .int .i64 1]) σ)
          else
          bif (decide (0 < (rest2.size : Int))) then (
            bif (decide (((rest2.data.toList.getD 0 0).toNat : Int) < 33)) then (
              K (.tuple [.agg [.int .i64 0, .int .i64 0, .int .i64 0, .str (⟨#[]⟩ : ByteArray)], .int .i64 1]) σ)
            else
            bif (decide (0 < (rest2.size : Int))) then (
              bif (decide (((rest2.data.toList.getD 0 0).toNat : Int) > 126)) then (
                K (.tuple [.agg [.int .i64 0, .int .i64 0, .int .i64 0, .str (⟨#[]⟩ : ByteArray)], .int .i64 1]) σ)
              else
              bif (decide (1 < (rest2.size : Int))) then (
                bif (((rest2.data.toList.getD 1 0).toNat : Int) != 32) then (
                  K (.tuple [.agg [.int .i64 0, .int .i64 0, .int .i64 0, .str (⟨#[]⟩ : ByteArray)], .int .i64 1]) σ)
                else
                bif (decide ((rest2.size : Int) > 42)) then (
                  K (.tuple [.agg [.int .i64 0, .int .i64 0, .int .i64 0, .str (⟨#[]⟩ : ByteArray)], .int .i64 2]) σ)
                else
                bif ((decide (2 ≤ (rest2.size : Int))) && (decide ((rest2.size : Int) ≤ (rest2.size : Int)))) then (
                  (w.ref21_Parse (rest2.extract 2 rest2.size) σ).bind fun q8 =>
                  bif (decide (0 < (rest2.size : Int))) then (
                    bif ((decide (2 ≤ (rest2.size : Int))) && (decide ((rest2.size : Int) ≤ (rest2.size : Int)))) then (
                      bif (q8.1.2 == 0) then (
                        bif (!(decide (q8.1.1.Kind < 16))) then (
                          K (.tuple [.agg [.int .i64 0, .int .i64 0, .int .i64 0, .str (⟨#[]⟩ : ByteArray)], .int .i64 1]) q8.2)
                        else
                        K (.tuple [.agg [.int .i64 kind1, .int .i64 (IntKind.i64.wrap ((rest2.data.toList.getD 0 0).toNat : Int)), .int .i64 0, .str (rest2.extract 2 rest2.size)], .int .i64 0]) q8.2)
                      else K (.tuple [.agg [.int .i64 0, .int .i64 0, .int .i64 0, .str (⟨#[]⟩ : ByteArray)], .int .i64 1]) q8.2)
                    else none)
                  else none)
                else none)
              else none)
            else none)
          else none)
        else K (.tuple [.agg [.int .i64 0, .int .i64 0, .int .i64 0, .str (⟨#[]⟩ : ByteArray)], .int .i64 1]) σ)
      else
      bif (kind1 == 6) then (
        bif (decide ((rest2.size : Int) > 40)) then (
          K (.tuple [.agg [.int .i64 0, .int .i64 0, .int .i64 0, .str (⟨#[]⟩ : ByteArray)], .int .i64 2]) σ)
        else
        K (.tuple [.agg [.int .i64 kind1, .int .i64 0, .int .i64 0, .str rest2], .int .i64 0]) σ)
      else
      bif (kind1 == 17) then (
        bif ((rest2.size : Int) == 1) then (
          bif (decide (0 < (rest2.size : Int))) then (
            bif (decide (((rest2.data.toList.getD 0 0).toNat : Int) ≥ 33)) then (
              bif (decide (0 < (rest2.size : Int))) then (
                bif (decide (((rest2.data.toList.getD 0 0).toNat : Int) ≤ 126)) then (
                  bif (decide (0 < (rest2.size : Int))) then (
                    K (.tuple [.agg [.int .i64 kind1, .int .i64 (IntKind.i64.wrap ((rest2.data.toList.getD 0 0).toNat : Int)), .int .i64 0, .str (⟨#[]⟩ : ByteArray)], .int .i64 0]) σ)
                  else
                  none)
                else K (.tuple [.agg [.int .i64 0, .int .i64 0, .int .i64 0, .str (⟨#[]⟩ : ByteArray)], .int .i64 1]) σ)
              else none)
            else K (.tuple [.agg [.int .i64 0, .int .i64 0, .int .i64 0, .str (⟨#[]⟩ : ByteArray)], .int .i64 1]) σ)
          else none)
        else K (.tuple [.agg [.int .i64 0, .int .i64 0, .int .i64 0, .str (⟨#[]⟩ : ByteArray)], .int .i64 1]) σ)
      else
      bif (kind1 == 16) then (
        bif (decide ((rest2.size : Int) < 2)) then (
          K (.tuple [.agg [.int .i64 0, .int .i64 0, .int .i64 0, .str (⟨#[]⟩ : ByteArray)], .int .i64 1]) σ)
        else
        bif (decide (0 < (rest2.size : Int))) then (
          bif (decide (((rest2.data.toList.getD 0 0).toNat : Int) < 33)) then (
            K (.tuple [.agg [.int .i64 0, .int .i64 0, .int .i64 0, .str (⟨#[]⟩ : ByteArray)], .int .i64 1]) σ)
          else
          bif (decide (0 < (rest2.size : Int))) then (
            bif (decide (((rest2.data.toList.getD 0 0).toNat : Int) > 126)) then (
              K (.tuple [.agg [.int .i64 0, .int .i64 0, .int .i64 0, .str (⟨#[]⟩ : ByteArray)], .int .i64 1]) σ)
            else
            bif (decide (1 < (rest2.size : Int))) then (
              bif (((rest2.data.toList.getD 1 0).toNat : Int) != 32) then (
                K (.tuple [.agg [.int .i64 0, .int .i64 0, .int .i64 0, .str (⟨#[]⟩ : ByteArray)], .int .i64 1]) σ)
              else
              bif (decide ((rest2.size : Int) > 42)) then (
                K (.tuple [.agg [.int .i64 0, .int .i64 0, .int .i64 0, .str (⟨#[]⟩ : ByteArray)], .int .i64 2]) σ)
              else
              bif ((decide (2 ≤ (rest2.size : Int))) && (decide ((rest2.size : Int) ≤ (rest2.size : Int)))) then (
                (w.ref21_Parse (rest2.extract 2 rest2.size) σ).bind fun q9 =>
                bif (decide (0 < (rest2.size : Int))) then (
                  bif ((decide (2 ≤ (rest2.size : Int))) && (decide ((rest2.size : Int) ≤ (rest2.size : Int)))) then (
                    bif (q9.1.2 == 0) then (
                      bif (!(decide (q9.1.1.Kind < 16))) then (
                        K (.tuple [.agg [.int .i64 0, .int .i64 0, .int .i64 0, .str (⟨#[]⟩ : ByteArray)], .int .i64 1]) q9.2)
                      else
                      K (.tuple [.agg [.int .i64 kind1, .int .i64 (IntKind.i64.wrap ((rest2.data.toList.getD 0 0).toNat : Int)), .int .i64 0, .str (rest2.extract 2 rest2.size)], .int .i64 0]) q9.2)
                    else K (.tuple [.agg [.int .i64 0, .int .i64 0, .int .i64 0, .str (⟨#[]⟩ : ByteArray)], .int .i64 1]) q9.2)
                  else none)
                else none)
              else none)
            else none)
          else none)
        else none)
      else K (.tuple [.agg [.int .i64 0, .int .i64 0, .int .i64 0, .str (⟨#[]⟩ : ByteArray)], .int .i64 1]) σ)
    else
    bif (kind1 == 5) then (
      bif (kind1 == 5) then (
        (w.ref21_number rest2 σ).bind fun q10 =>
        bif (!q10.1.2) then (
          K (.tuple [.agg [.int .i64 0, .int .i64 0, .int .i64 0, .str (⟨#[]⟩ : ByteArray)], .int .i64 1]) q10.2)
        else
        K (.tuple [.agg [.int .i64 kind1, .int .i64 q10.1.1, .int .i64 0, .str (⟨#[]⟩ : ByteArray)], .int .i64 0]) q10.2)
      else
      bif (kind1 == 7) then (
        bif (kind1 == 7) then (
          (w.ref21_pair rest2 σ).bind fun q11 =>
          bif (!q11.1.2.2) then (
            K (.tuple [.agg [.int .i64 0, .int .i64 0, .int .i64 0, .str (⟨#[]⟩ : ByteArray)], .int .i64 1]) q11.2)
          else
          K (.tuple [.agg [.int .i64 kind1, .int .i64 q11.1.1, .int .i64 q11.1.2.1, .str (⟨#[]⟩ : ByteArray)], .int .i64 0]) q11.2)
        else
        bif (kind1 == 4) then (
          bif (kind1 == 4) then (
            bif (decide ((rest2.size : Int) > 40)) then (
              K (.tuple [.agg [.int .i64 0, .int .i64 0, .int .i64 0, .str (⟨#[]⟩ : ByteArray)], .int .i64 2]) σ)
            else
            K (.tuple [.agg [.int .i64 kind1, .int .i64 0, .int .i64 0, .str rest2], .int .i64 0]) σ)
          else
          bif (kind1 == 17) then (
            bif ((rest2.size : Int) == 1) then (
              bif (decide (0 < (rest2.size : Int))) then (
                bif (decide (((rest2.data.toList.getD 0 0).toNat : Int) ≥ 33)) then (
                  bif (decide (0 < (rest2.size : Int))) then (
                    bif (decide (((rest2.data.toList.getD 0 0).toNat : Int) ≤ 126)) then (
                      bif (decide (0 < (rest2.size : Int))) then (
                        K (.tuple [.agg [.int .i64 kind1, .int .i64 (IntKind.i64.wrap ((rest2.data.toList.getD 0 0).toNat : Int)), .int .i64 0, .str (⟨#[]⟩ : ByteArray)], .int .i64 0]) σ)
                      else
                      none)
                    else K (.tuple [.agg [.int .i64 0, .int .i64 0, .int .i64 0, .str (⟨#[]⟩ : ByteArray)], .int .i64 1]) σ)
                  else none)
                else K (.tuple [.agg [.int .i64 0, .int .i64 0, .int .i64 0, .str (⟨#[]⟩ : ByteArray)], .int .i64 1]) σ)
              else none)
            else K (.tuple [.agg [.int .i64 0, .int .i64 0, .int .i64 0, .str (⟨#[]⟩ : ByteArray)], .int .i64 1]) σ)
          else
          bif (kind1 == 16) then (
            bif (decide ((rest2.size : Int) < 2)) then (
              K (.tuple [.agg [.int .i64 0, .int .i64 0, .int .i64 0, .str (⟨#[]⟩ : ByteArray)], .int .i64 1]) σ)
            else
            bif (decide (0 < (rest2.size : Int))) then (
              bif (decide (((rest2.data.toList.getD 0 0).toNat : Int) < 33)) then (
                K (.tuple [.agg [.int .i64 0, .int .i64 0, .int .i64 0, .str (⟨#[]⟩ : ByteArray)], .int .i64 1]) σ)
              else
              bif (decide (0 < (rest2.size : Int))) then (
                bif (decide (((rest2.data.toList.getD 0 0).toNat : Int) > 126)) then (
                  K (.tuple [.agg [.int .i64 0, .int .i64 0, .int .i64 0, .str (⟨#[]⟩ : ByteArray)], .int .i64 1]) σ)
                else
                bif (decide (1 < (rest2.size : Int))) then (
                  bif (((rest2.data.toList.getD 1 0).toNat : Int) != 32) then (
                    K (.tuple [.agg [.int .i64 0, .int .i64 0, .int .i64 0, .str (⟨#[]⟩ : ByteArray)], .int .i64 1]) σ)
                  else
                  bif (decide ((rest2.size : Int) > 42)) then (
                    K (.tuple [.agg [.int .i64 0, .int .i64 0, .int .i64 0, .str (⟨#[]⟩ : ByteArray)], .int .i64 2]) σ)
                  else
                  bif ((decide (2 ≤ (rest2.size : Int))) && (decide ((rest2.size : Int) ≤ (rest2.size : Int)))) then (
                    (w.ref21_Parse (rest2.extract 2 rest2.size) σ).bind fun q12 =>
                    bif (decide (0 < (rest2.size : Int))) then (
                      bif ((decide (2 ≤ (rest2.size : Int))) && (decide ((rest2.size : Int) ≤ (rest2.size : Int)))) then (
                        bif (q12.1.2 == 0) then (
                          bif (!(decide (q12.1.1.Kind < 16))) then (
                            K (.tuple [.agg [.int .i64 0, .int .i64 0, .int .i64 0, .str (⟨#[]⟩ : ByteArray)], .int .i64 1]) q12.2)
                          else
                          K (.tuple [.agg [.int .i64 kind1, .int .i64 (IntKind.i64.wrap ((rest2.data.toList.getD 0 0).toNat : Int)), .int .i64 0, .str (rest2.extract 2 rest2.size)], .int .i64 0]) q12.2)
                        else K (.tuple [.agg [.int .i64 0, .int .i64 0, .int .i64 0, .str (⟨#[]⟩ : ByteArray)], .int .i64 1]) q12.2)
                      else none)
                    else none)
                  else none)
                else none)
              else none)
            else none)
          else K (.tuple [.agg [.int .i64 0, .int .i64 0, .int .i64 0, .str (⟨#[]⟩ : ByteArray)], .int .i64 1]) σ)
        else
        bif (kind1 == 6) then (
          bif (decide ((rest2.size : Int) > 40)) then (
            K (.tuple [.agg [.int .i64 0, .int .i64 0, .int .i64 0, .str (⟨#[]⟩ : ByteArray)], .int .i64 2]) σ)
          else
          K (.tuple [.agg [.int .i64 kind1, .int .i64 0, .int .i64 0, .str rest2], .int .i64 0]) σ)
        else
        bif (kind1 == 17) then (
          bif ((rest2.size : Int) == 1) then (
            bif (decide (0 < (rest2.size : Int))) then (
              bif (decide (((rest2.data.toList.getD 0 0).toNat : Int) ≥ 33)) then (
                bif (decide (0 < (rest2.size : Int))) then (
                  bif (decide (((rest2.data.toList.getD 0 0).toNat : Int) ≤ 126)) then (
                    bif (decide (0 < (rest2.size : Int))) then (
                      K (.tuple [.agg [.int .i64 kind1, .int .i64 (IntKind.i64.wrap ((rest2.data.toList.getD 0 0).toNat : Int)), .int .i64 0, .str (⟨#[]⟩ : ByteArray)], .int .i64 0]) σ)
                    else
                    none)
                  else K (.tuple [.agg [.int .i64 0, .int .i64 0, .int .i64 0, .str (⟨#[]⟩ : ByteArray)], .int .i64 1]) σ)
                else none)
              else K (.tuple [.agg [.int .i64 0, .int .i64 0, .int .i64 0, .str (⟨#[]⟩ : ByteArray)], .int .i64 1]) σ)
            else none)
          else K (.tuple [.agg [.int .i64 0, .int .i64 0, .int .i64 0, .str (⟨#[]⟩ : ByteArray)], .int .i64 1]) σ)
        else
        bif (kind1 == 16) then (
          bif (decide ((rest2.size : Int) < 2)) then (
            K (.tuple [.agg [.int .i64 0, .int .i64 0, .int .i64 0, .str (⟨#[]⟩ : ByteArray)], .int .i64 1]) σ)
          else
          bif (decide (0 < (rest2.size : Int))) then (
            bif (decide (((rest2.data.toList.getD 0 0).toNat : Int) < 33)) then (
              K (.tuple [.agg [.int .i64 0, .int .i64 0, .int .i64 0, .str (⟨#[]⟩ : ByteArray)], .int .i64 1]) σ)
            else
            bif (decide (0 < (rest2.size : Int))) then (
              bif (decide (((rest2.data.toList.getD 0 0).toNat : Int) > 126)) then (
                K (.tuple [.agg [.int .i64 0, .int .i64 0, .int .i64 0, .str (⟨#[]⟩ : ByteArray)], .int .i64 1]) σ)
              else
              bif (decide (1 < (rest2.size : Int))) then (
                bif (((rest2.data.toList.getD 1 0).toNat : Int) != 32) then (
                  K (.tuple [.agg [.int .i64 0, .int .i64 0, .int .i64 0, .str (⟨#[]⟩ : ByteArray)], .int .i64 1]) σ)
                else
                bif (decide ((rest2.size : Int) > 42)) then (
                  K (.tuple [.agg [.int .i64 0, .int .i64 0, .int .i64 0, .str (⟨#[]⟩ : ByteArray)], .int .i64 2]) σ)
                else
                bif ((decide (2 ≤ (rest2.size : Int))) && (decide ((rest2.size : Int) ≤ (rest2.size : Int)))) then (
                  (w.ref21_Parse (rest2.extract 2 rest2.size) σ).bind fun q13 =>
                  bif (decide (0 < (rest2.size : Int))) then (
                    bif ((decide (2 ≤ (rest2.size : Int))) && (decide ((rest2.size : Int) ≤ (rest2.size : Int)))) then (
                      bif (q13.1.2 == 0) then (
                        bif (!(decide (q13.1.1.Kind < 16))) then (
                          K (.tuple [.agg [.int .i64 0, .int .i64 0, .int .i64 0, .str (⟨#[]⟩ : ByteArray)], .int .i64 1]) q13.2)
                        else
                        K (.tuple [.agg [.int .i64 kind1, .int .i64 (IntKind.i64.wrap ((rest2.data.toList.getD 0 0).toNat : Int)), .int .i64 0, .str (rest2.extract 2 rest2.size)], .int .i64 0]) q13.2)
                      else K (.tuple [.agg [.int .i64 0, .int .i64 0, .int .i64 0, .str (⟨#[]⟩ : ByteArray)], .int .i64 1]) q13.2)
                    else none)
                  else none)
                else none)
              else none)
            else none)
          else none)
        else K (.tuple [.agg [.int .i64 0, .int .i64 0, .int .i64 0, .str (⟨#[]⟩ : ByteArray)], .int .i64 1]) σ)
      else
      bif (kind1 == 13) then (
        (w.ref21_pair rest2 σ).bind fun q14 =>
        bif (!q14.1.2.2) then (
          K (.tuple [.agg [.int .i64 0, .int .i64 0, .int .i64 0, .str (⟨#[]⟩ : ByteArray)], .int .i64 1]) q14.2)
        else
        K (.tuple [.agg [.int .i64 kind1, .int .i64 q14.1.1, .int .i64 q14.1.2.1, .str (⟨#[]⟩ : ByteArray)], .int .i64 0]) q14.2)
      else
      bif (kind1 == 4) then (
        bif (kind1 == 4) then (
          bif (decide ((rest2.size : Int) > 40)) then (
            K (.tuple [.agg [.int .i64 0, .int .i64 0, .int .i64 0, .str (⟨#[]⟩ : ByteArray)], .int .i64 2]) σ)
          else
          K (.tuple [.agg [.int .i64 kind1, .int .i64 0, .int .i64 0, .str rest2], .int .i64 0]) σ)
        else
        bif (kind1 == 17) then (
          bif ((rest2.size : Int) == 1) then (
            bif (decide (0 < (rest2.size : Int))) then (
              bif (decide (((rest2.data.toList.getD 0 0).toNat : Int) ≥ 33)) then (
                bif (decide (0 < (rest2.size : Int))) then (
                  bif (decide (((rest2.data.toList.getD 0 0).toNat : Int) ≤ 126)) then (
                    bif (decide (0 < (rest2.size : Int))) then (
                      K (.tuple [.agg [.int .i64 kind1, .int .i64 (IntKind.i64.wrap ((rest2.data.toList.getD 0 0).toNat : Int)), .int .i64 0, .str (⟨#[]⟩ : ByteArray)], .int .i64 0]) σ)
                    else
                    none)
                  else K (.tuple [.agg [.int .i64 0, .int .i64 0, .int .i64 0, .str (⟨#[]⟩ : ByteArray)], .int .i64 1]) σ)
                else none)
              else K (.tuple [.agg [.int .i64 0, .int .i64 0, .int .i64 0, .str (⟨#[]⟩ : ByteArray)], .int .i64 1]) σ)
            else none)
          else K (.tuple [.agg [.int .i64 0, .int .i64 0, .int .i64 0, .str (⟨#[]⟩ : ByteArray)], .int .i64 1]) σ)
        else
        bif (kind1 == 16) then (
          bif (decide ((rest2.size : Int) < 2)) then (
            K (.tuple [.agg [.int .i64 0, .int .i64 0, .int .i64 0, .str (⟨#[]⟩ : ByteArray)], .int .i64 1]) σ)
          else
          bif (decide (0 < (rest2.size : Int))) then (
            bif (decide (((rest2.data.toList.getD 0 0).toNat : Int) < 33)) then (
              K (.tuple [.agg [.int .i64 0, .int .i64 0, .int .i64 0, .str (⟨#[]⟩ : ByteArray)], .int .i64 1]) σ)
            else
            bif (decide (0 < (rest2.size : Int))) then (
              bif (decide (((rest2.data.toList.getD 0 0).toNat : Int) > 126)) then (
                K (.tuple [.agg [.int .i64 0, .int .i64 0, .int .i64 0, .str (⟨#[]⟩ : ByteArray)], .int .i64 1]) σ)
              else
              bif (decide (1 < (rest2.size : Int))) then (
                bif (((rest2.data.toList.getD 1 0).toNat : Int) != 32) then (
                  K (.tuple [.agg [.int .i64 0, .int .i64 0, .int .i64 0, .str (⟨#[]⟩ : ByteArray)], .int .i64 1]) σ)
                else
                bif (decide ((rest2.size : Int) > 42)) then (
                  K (.tuple [.agg [.int .i64 0, .int .i64 0, .int .i64 0, .str (⟨#[]⟩ : ByteArray)], .int .i64 2]) σ)
                else
                bif ((decide (2 ≤ (rest2.size : Int))) && (decide ((rest2.size : Int) ≤ (rest2.size : Int)))) then (
                  (w.ref21_Parse (rest2.extract 2 rest2.size) σ).bind fun q15 =>
                  bif (decide (0 < (rest2.size : Int))) then (
                    bif ((decide (2 ≤ (rest2.size : Int))) && (decide ((rest2.size : Int) ≤ (rest2.size : Int)))) then (
                      bif (q15.1.2 == 0) then (
                        bif (!(decide (q15.1.1.Kind < 16))) then (
                          K (.tuple [.agg [.int .i64 0, .int .i64 0, .int .i64 0, .str (⟨#[]⟩ : ByteArray)], .int .i64 1]) q15.2)
                        else
                        K (.tuple [.agg [.int .i64 kind1, .int .i64 (IntKind.i64.wrap ((rest2.data.toList.getD 0 0).toNat : Int)), .int .i64 0, .str (rest2.extract 2 rest2.size)], .int .i64 0]) q15.2)
                      else K (.tuple [.agg [.int .i64 0, .int .i64 0, .int .i64 0, .str (⟨#[]⟩ : ByteArray)], .int .i64 1]) q15.2)
                    else none)
                  else none)
                else none)
              else none)
            else none)
          else none)
        else K (.tuple [.agg [.int .i64 0, .int .i64 0, .int .i64 0, .str (⟨#[]⟩ : ByteArray)], .int .i64 1]) σ)
      else
      bif (kind1 == 6) then (
        bif (decide ((rest2.size : Int) > 40)) then (
          K (.tuple [.agg [.int .i64 0, .int .i64 0, .int .i64 0, .str (⟨#[]⟩ : ByteArray)], .int .i64 2]) σ)
        else
        K (.tuple [.agg [.int .i64 kind1, .int .i64 0, .int .i64 0, .str rest2], .int .i64 0]) σ)
      else
      bif (kind1 == 17) then (
        bif ((rest2.size : Int) == 1) then (
          bif (decide (0 < (rest2.size : Int))) then (
            bif (decide (((rest2.data.toList.getD 0 0).toNat : Int) ≥ 33)) then (
              bif (decide (0 < (rest2.size : Int))) then (
                bif (decide (((rest2.data.toList.getD 0 0).toNat : Int) ≤ 126)) then (
                  bif (decide (0 < (rest2.size : Int))) then (
                    K (.tuple [.agg [.int .i64 kind1, .int .i64 (IntKind.i64.wrap ((rest2.data.toList.getD 0 0).toNat : Int)), .int .i64 0, .str (⟨#[]⟩ : ByteArray)], .int .i64 0]) σ)
                  else
                  none)
                else K (.tuple [.agg [.int .i64 0, .int .i64 0, .int .i64 0, .str (⟨#[]⟩ : ByteArray)], .int .i64 1]) σ)
              else none)
            else K (.tuple [.agg [.int .i64 0, .int .i64 0, .int .i64 0, .str (⟨#[]⟩ : ByteArray)], .int .i64 1]) σ)
          else none)
        else K (.tuple [.agg [.int .i64 0, .int .i64 0, .int .i64 0, .str (⟨#[]⟩ : ByteArray)], .int .i64 1]) σ)
      else
      bif (kind1 == 16) then (
        bif (decide ((rest2.size : Int) < 2)) then (
          K (.tuple [.agg [.int .i64 0, .int .i64 0, .int .i64 0, .str (⟨#[]⟩ : ByteArray)], .int .i64 1]) σ)
        else
        bif (decide (0 < (rest2.size : Int))) then (
          bif (decide (((rest2.data.toList.getD 0 0).toNat : Int) < 33)) then (
            K (.tuple [.agg [.int .i64 0, .int .i64 0, .int .i64 0, .str (⟨#[]⟩ : ByteArray)], .int .i64 1]) σ)
          else
          bif (decide (0 < (rest2.size : Int))) then (
            bif (decide (((rest2.data.toList.getD 0 0).toNat : Int) > 126)) then (
              K (.tuple [.agg [.int .i64 0, .int .i64 0, .int .i64 0, .str (⟨#[]⟩ : ByteArray)], .int .i64 1]) σ)
            else
            bif (decide (1 < (rest2.size : Int))) then (
              bif (((rest2.data.toList.getD 1 0).toNat : Int) != 32) then (
                K (.tuple [.agg [.int .i64 0, .int .i64 0, .int .i64 0, .str (⟨#[]⟩ : ByteArray)], .int .i64 1]) σ)
              else
              bif (decide ((rest2.size : Int) > 42)) then (
                K (.tuple [.agg [.int .i64 0, .int .i64 0, .int .i64 0, .str (⟨#[]⟩ : ByteArray)], .int .i64 2]) σ)
              else
              bif ((decide (2 ≤ (rest2.size : Int))) && (decide ((rest2.size : Int) ≤ (rest2.size : Int)))) then (
                (w.ref21_Parse (rest2.extract 2 rest2.size) σ).bind fun q16 =>
                bif (decide (0 < (rest2.size : Int))) then (
                  bif ((decide (2 ≤ (rest2.size : Int))) && (decide ((rest2.size : Int) ≤ (rest2.size : Int)))) then (
                    bif (q16.1.2 == 0) then (
                      bif (!(decide (q16.1.1.Kind < 16))) then (
                        K (.tuple [.agg [.int .i64 0, .int .i64 0, .int .i64 0, .str (⟨#[]⟩ : ByteArray)], .int .i64 1]) q16.2)
                      else
                      K (.tuple [.agg [.int .i64 kind1, .int .i64 (IntKind.i64.wrap ((rest2.data.toList.getD 0 0).toNat : Int)), .int .i64 0, .str (rest2.extract 2 rest2.size)], .int .i64 0]) q16.2)
                    else K (.tuple [.agg [.int .i64 0, .int .i64 0, .int .i64 0, .str (⟨#[]⟩ : ByteArray)], .int .i64 1]) q16.2)
                  else none)
                else none)
              else none)
            else none)
          else none)
        else none)
      else K (.tuple [.agg [.int .i64 0, .int .i64 0, .int .i64 0, .str (⟨#[]⟩ : ByteArray)], .int .i64 1]) σ)
    else
    bif (kind1 == 14) then (
      (w.ref21_number rest2 σ).bind fun q17 =>
      bif (!q17.1.2) then (
        K (.tuple [.agg [.int .i64 0, .int .i64 0, .int .i64 0, .str (⟨#[]⟩ : ByteArray)], .int .i64 1]) q17.2)
      else
      K (.tuple [.agg [.int .i64 kind1, .int .i64 q17.1.1, .int .i64 0, .str (⟨#[]⟩ : ByteArray)], .int .i64 0]) q17.2)
    else
    bif (kind1 == 7) then (
      bif (kind1 == 7) then (
        (w.ref21_pair rest2 σ).bind fun q18 =>
        bif (!q18.1.2.2) then (
          K (.tuple [.agg [.int .i64 0, .int .i64 0, .int .i64 0, .str (⟨#[]⟩ : ByteArray)], .int .i64 1]) q18.2)
        else
        K (.tuple [.agg [.int .i64 kind1, .int .i64 q18.1.1, .int .i64 q18.1.2.1, .str (⟨#[]⟩ : ByteArray)], .int .i64 0]) q18.2)
      else
      bif (kind1 == 4) then (
        bif (kind1 == 4) then (
          bif (decide ((rest2.size : Int) > 40)) then (
            K (.tuple [.agg [.int .i64 0, .int .i64 0, .int .i64 0, .str (⟨#[]⟩ : ByteArray)], .int .i64 2]) σ)
          else
          K (.tuple [.agg [.int .i64 kind1, .int .i64 0, .int .i64 0, .str rest2], .int .i64 0]) σ)
        else
        bif (kind1 == 17) then (
          bif ((rest2.size : Int) == 1) then (
            bif (decide (0 < (rest2.size : Int))) then (
              bif (decide (((rest2.data.toList.getD 0 0).toNat : Int) ≥ 33)) then (
                bif (decide (0 < (rest2.size : Int))) then (
                  bif (decide (((rest2.data.toList.getD 0 0).toNat : Int) ≤ 126)) then (
                    bif (decide (0 < (rest2.size : Int))) then (
                      K (.tuple [.agg [.int .i64 kind1, .int .i64 (IntKind.i64.wrap ((rest2.data.toList.getD 0 0).toNat : Int)), .int .i64 0, .str (⟨#[]⟩ : ByteArray)], .int .i64 0]) σ)
                    else
                    none)
                  else K (.tuple [.agg [.int .i64 0, .int .i64 0, .int .i64 0, .str (⟨#[]⟩ : ByteArray)], .int .i64 1]) σ)
                else none)
              else K (.tuple [.agg [.int .i64 0, .int .i64 0, .int .i64 0, .str (⟨#[]⟩ : ByteArray)], .int .i64 1]) σ)
            else none)
          else K (.tuple [.agg [.int .i64 0, .int .i64 0, .int .i64 0, .str (⟨#[]⟩ : ByteArray)], .int .i64 1]) σ)
        else
        bif (kind1 == 16) then (
          bif (decide ((rest2.size : Int) < 2)) then (
            K (.tuple [.agg [.int .i64 0, .int .i64 0, .int .i64 0, .str (⟨#[]⟩ : ByteArray)], .int .i64 1]) σ)
          else
          bif (decide (0 < (rest2.size : Int))) then (
            bif (decide (((rest2.data.toList.getD 0 0).toNat : Int) < 33)) then (
              K (.tuple [.agg [.int .i64 0, .int .i64 0, .int .i64 0, .str (⟨#[]⟩ : ByteArray)], .int .i64 1]) σ)
            else
            bif (decide (0 < (rest2.size : Int))) then (
              bif (decide (((rest2.data.toList.getD 0 0).toNat : Int) > 126)) then (
                K (.tuple [.agg [.int .i64 0, .int .i64 0, .int .i64 0, .str (⟨#[]⟩ : ByteArray)], .int .i64 1]) σ)
              else
              bif (decide (1 < (rest2.size : Int))) then (
                bif (((rest2.data.toList.getD 1 0).toNat : Int) != 32) then (
                  K (.tuple [.agg [.int .i64 0, .int .i64 0, .int .i64 0, .str (⟨#[]⟩ : ByteArray)], .int .i64 1]) σ)
                else
                bif (decide ((rest2.size : Int) > 42)) then (
                  K (.tuple [.agg [.int .i64 0, .int .i64 0, .int .i64 0, .str (⟨#[]⟩ : ByteArray)], .int .i64 2]) σ)
                else
                bif ((decide (2 ≤ (rest2.size : Int))) && (decide ((rest2.size : Int) ≤ (rest2.size : Int)))) then (
                  (w.ref21_Parse (rest2.extract 2 rest2.size) σ).bind fun q19 =>
                  bif (decide (0 < (rest2.size : Int))) then (
                    bif ((decide (2 ≤ (rest2.size : Int))) && (decide ((rest2.size : Int) ≤ (rest2.size : Int)))) then (
                      bif (q19.1.2 == 0) then (
                        bif (!(decide (q19.1.1.Kind < 16))) then (
                          K (.tuple [.agg [.int .i64 0, .int .i64 0, .int .i64 0, .str (⟨#[]⟩ : ByteArray)], .int .i64 1]) q19.2)
                        else
                        K (.tuple [.agg [.int .i64 kind1, .int .i64 (IntKind.i64.wrap ((rest2.data.toList.getD 0 0).toNat : Int)), .int .i64 0, .str (rest2.extract 2 rest2.size)], .int .i64 0]) q19.2)
                      else K (.tuple [.agg [.int .i64 0, .int .i64 0, .int .i64 0, .str (⟨#[]⟩ : ByteArray)], .int .i64 1]) q19.2)
                    else none)
                  else none)
                else none)
              else none)
            else none)
          else none)
        else K (.tuple [.agg [.int .i64 0, .int .i64 0, .int .i64 0, .str (⟨#[]⟩ : ByteArray)], .int .i64 1]) σ)
      else
      bif (kind1 == 6) then (
        bif (decide ((rest2.size : Int) > 40)) then (
          K (.tuple [.agg [.int .i64 0, .int .i64 0, .int .i64 0, .str (⟨#[]⟩ : ByteArray)], .int .i64 2]) σ)
        else
        K (.tuple [.agg [.int .i64 kind1, .int .i64 0, .int .i64 0, .str rest2], .int .i64 0]) σ)
      else
      bif (kind1 == 17) then (
        bif ((rest2.size : Int) == 1) then (
          bif (decide (0 < (rest2.size : Int))) then (
            bif (decide (((rest2.data.toList.getD 0 0).toNat : Int) ≥ 33)) then (
              bif (decide (0 < (rest2.size : Int))) then (
                bif (decide (((rest2.data.toList.getD 0 0).toNat : Int) ≤ 126)) then (
                  bif (decide (0 < (rest2.size : Int))) then (
                    K (.tuple [.agg [.int .i64 kind1, .int .i64 (IntKind.i64.wrap ((rest2.data.toList.getD 0 0).toNat : Int)), .int .i64 0, .str (⟨#[]⟩ : ByteArray)], .int .i64 0]) σ)
                  else
                  none)
                else K (.tuple [.agg [.int .i64 0, .int .i64 0, .int .i64 0, .str (⟨#[]⟩ : ByteArray)], .int .i64 1]) σ)
              else none)
            else K (.tuple [.agg [.int .i64 0, .int .i64 0, .int .i64 0, .str (⟨#[]⟩ : ByteArray)], .int .i64 1]) σ)
          else none)
        else K (.tuple [.agg [.int .i64 0, .int .i64 0, .int .i64 0, .str (⟨#[]⟩ : ByteArray)], .int .i64 1]) σ)
      else
      bif (kind1 == 16) then (
        bif (decide ((rest2.size : Int) < 2)) then (
          K (.tuple [.agg [.int .i64 0, .int .i64 0, .int .i64 0, .str (⟨#[]⟩ : ByteArray)], .int .i64 1]) σ)
        else
        bif (decide (0 < (rest2.size : Int))) then (
          bif (decide (((rest2.data.toList.getD 0 0).toNat : Int) < 33)) then (
            K (.tuple [.agg [.int .i64 0, .int .i64 0, .int .i64 0, .str (⟨#[]⟩ : ByteArray)], .int .i64 1]) σ)
          else
          bif (decide (0 < (rest2.size : Int))) then (
            bif (decide (((rest2.data.toList.getD 0 0).toNat : Int) > 126)) then (
              K (.tuple [.agg [.int .i64 0, .int .i64 0, .int .i64 0, .str (⟨#[]⟩ : ByteArray)], .int .i64 1]) σ)
            else
            bif (decide (1 < (rest2.size : Int))) then (
              bif (((rest2.data.toList.getD 1 0).toNat : Int) != 32) then (
                K (.tuple [.agg [.int .i64 0, .int .i64 0, .int .i64 0, .str (⟨#[]⟩ : ByteArray)], .int .i64 1]) σ)
              else
              bif (decide ((rest2.size : Int) > 42)) then (
                K (.tuple [.agg [.int .i64 0, .int .i64 0, .int .i64 0, .str (⟨#[]⟩ : ByteArray)], .int .i64 2]) σ)
              else
              bif ((decide (2 ≤ (rest2.size : Int))) && (decide ((rest2.size : Int) ≤ (rest2.size : Int)))) then (
                (w.ref21_Parse (rest2.extract 2 rest2.size) σ).bind fun q20 =>
                bif (decide (0 < (rest2.size : Int))) then (
                  bif ((decide (2 ≤ (rest2.size : Int))) && (decide ((rest2.size : Int) ≤ (rest2.size : Int)))) then (
                    bif (q20.1.2 == 0) then (
                      bif (!(decide (q20.1.1.Kind < 16))) then (
                        K (.tuple [.agg [.int .i64 0, .int .i64 0, .int .i64 0, .str (⟨#[]⟩ : ByteArray)], .int .i64 1]) q20.2)
                      else
                      K (.tuple [.agg [.int .i64 kind1, .int .i64 (IntKind.i64.wrap ((rest2.data.toList.getD 0 0).toNat : Int)), .int .i64 0, .str (rest2.extract 2 rest2.size)], .int .i64 0]) q20.2)
                    else K (.tuple [.agg [.int .i64 0, .int .i64 0, .int .i64 0, .str (⟨#[]⟩ : ByteArray)], .int .i64 1]) q20.2)
                  else none)
                else none)
              else none)
            else none)
          else none)
        else none)
      else K (.tuple [.agg [.int .i64 0, .int .i64 0, .int .i64 0, .str (⟨#[]⟩ : ByteArray)], .int .i64 1]) σ)
    else
    bif (kind1 == 13) then (
      (w.ref21_pair rest2 σ).bind fun q21 =>
      bif (!q21.1.2.2) then (
        K (.tuple [.agg [.int .i64 0, .int .i64 0, .int .i64 0, .str (⟨#[]⟩ : ByteArray)], .int .i64 1]) q21.2)
      else
      K (.tuple [.agg [.int .i64 kind1, .int .i64 q21.1.1, .int .i64 q21.1.2.1, .str (⟨#[]⟩ : ByteArray)], .int .i64 0]) q21.2)
    else
    bif (kind1 == 4) then (
      bif (kind1 == 4) then (
        bif (decide ((rest2.size : Int) > 40)) then (
          K (.tuple [.agg [.int .i64 0, .int .i64 0, .int .i64 0, .str (⟨#[]⟩ : ByteArray)], .int .i64 2]) σ)
        else
        K (.tuple [.agg [.int .i64 kind1, .int .i64 0, .int .i64 0, .str rest2], .int .i64 0]) σ)
      else
      bif (kind1 == 17) then (
        bif ((rest2.size : Int) == 1) then (
          bif (decide (0 < (rest2.size : Int))) then (
            bif (decide (((rest2.data.toList.getD 0 0).toNat : Int) ≥ 33)) then (
              bif (decide (0 < (rest2.size : Int))) then (
                bif (decide (((rest2.data.toList.getD 0 0).toNat : Int) ≤ 126)) then (
                  bif (decide (0 < (rest2.size : Int))) then (
                    K (.tuple [.agg [.int .i64 kind1, .int .i64 (IntKind.i64.wrap ((rest2.data.toList.getD 0 0).toNat : Int)), .int .i64 0, .str (⟨#[]⟩ : ByteArray)], .int .i64 0]) σ)
                  else
                  none)
                else K (.tuple [.agg [.int .i64 0, .int .i64 0, .int .i64 0, .str (⟨#[]⟩ : ByteArray)], .int .i64 1]) σ)
              else none)
            else K (.tuple [.agg [.int .i64 0, .int .i64 0, .int .i64 0, .str (⟨#[]⟩ : ByteArray)], .int .i64 1]) σ)
          else none)
        else K (.tuple [.agg [.int .i64 0, .int .i64 0, .int .i64 0, .str (⟨#[]⟩ : ByteArray)], .int .i64 1]) σ)
      else
      bif (kind1 == 16) then (
        bif (decide ((rest2.size : Int) < 2)) then (
          K (.tuple [.agg [.int .i64 0, .int .i64 0, .int .i64 0, .str (⟨#[]⟩ : ByteArray)], .int .i64 1]) σ)
        else
        bif (decide (0 < (rest2.size : Int))) then (
          bif (decide (((rest2.data.toList.getD 0 0).toNat : Int) < 33)) then (
            K (.tuple [.agg [.int .i64 0, .int .i64 0, .int .i64 0, .str (⟨#[]⟩ : ByteArray)], .int .i64 1]) σ)
          else
          bif (decide (0 < (rest2.size : Int))) then (
            bif (decide (((rest2.data.toList.getD 0 0).toNat : Int) > 126)) then (
              K (.tuple [.agg [.int .i64 0, .int .i64 0, .int .i64 0, .str (⟨#[]⟩ : ByteArray)], .int .i64 1]) σ)
            else
            bif (decide (1 < (rest2.size : Int))) then (
              bif (((rest2.data.toList.getD 1 0).toNat : Int) != 32) then (
                K (.tuple [.agg [.int .i64 0, .int .i64 0, .int .i64 0, .str (⟨#[]⟩ : ByteArray)], .int .i64 1]) σ)
              else
              bif (decide ((rest2.size : Int) > 42)) then (
                K (.tuple [.agg [.int .i64 0, .int .i64 0, .int .i64 0, .str (⟨#[]⟩ : ByteArray)], .int .i64 2]) σ)
              else
              bif ((decide (2 ≤ (rest2.size : Int))) && (decide ((rest2.size : Int) ≤ (rest2.size : Int)))) then (
                (w.ref21_Parse (rest2.extract 2 rest2.size) σ).bind fun q22 =>
                bif (decide (0 < (rest2.size : Int))) then (
                  bif ((decide (2 ≤ (rest2.size : Int))) && (decide ((rest2.size : Int) ≤ (rest2.size : Int)))) then (
                    bif (q22.1.2 == 0) then (
                      bif (!(decide (q22.1.1.Kind < 16))) then (
                        K (.tuple [.agg [.int .i64 0, .int .i64 0, .int .i64 0, .str (⟨#[]⟩ : ByteArray)], .int .i64 1]) q22.2)
                      else
                      K (.tuple [.agg [.int .i64 kind1, .int .i64 (IntKind.i64.wrap ((rest2.data.toList.getD 0 0).toNat : Int)), .int .i64 0, .str (rest2.extract 2 rest2.size)], .int .i64 0]) q22.2)
                    else K (.tuple [.agg [.int .i64 0, .int .i64 0, .int .i64 0, .str (⟨#[]⟩ : ByteArray)], .int .i64 1]) q22.2)
                  else none)
                else none)
              else none)
            else none)
          else none)
        else none)
      else K (.tuple [.agg [.int .i64 0, .int .i64 0, .int .i64 0, .str (⟨#[]⟩ : ByteArray)], .int .i64 1]) σ)
    else
    bif (kind1 == 6) then (
      bif (decide ((rest2.size : Int) > 40)) then (
        K (.tuple [.agg [.int .i64 0, .int .i64 0, .int .i64 0, .str (⟨#[]⟩ : ByteArray)], .int .i64 2]) σ)
      else
      K (.tuple [.agg [.int .i64 kind1, .int .i64 0, .int .i64 0, .str rest2], .int .i64 0]) σ)
    else
    bif (kind1 == 17) then (
      bif ((rest2.size : Int) == 1) then (
        bif (decide (0 < (rest2.size : Int))) then (
          bif (decide (((rest2.data.toList.getD 0 0).toNat : Int) ≥ 33)) then (
            bif (decide (0 < (rest2.size : Int))) then (
              bif (decide (((rest2.data.toList.getD 0 0).toNat : Int) ≤ 126)) then (
                bif (decide (0 < (rest2.size : Int))) then (
                  K (.tuple [.agg [.int .i64 kind1, .int .i64 (IntKind.i64.wrap ((rest2.data.toList.getD 0 0).toNat : Int)), .int .i64 0, .str (⟨#[]⟩ : ByteArray)], .int .i64 0]) σ)
                else
                none)
              else K (.tuple [.agg [.int .i64 0, .int .i64 0, .int .i64 0, .str (⟨#[]⟩ : ByteArray)], .int .i64 1]) σ)
            else none)
          else K (.tuple [.agg [.int .i64 0, .int .i64 0, .int .i64 0, .str (⟨#[]⟩ : ByteArray)], .int .i64 1]) σ)
        else none)
      else K (.tuple [.agg [.int .i64 0, .int .i64 0, .int .i64 0, .str (⟨#[]⟩ : ByteArray)], .int .i64 1]) σ)
    else
    bif (kind1 == 16) then (
      bif (decide ((rest2.size : Int) < 2)) then (
        K (.tuple [.agg [.int .i64 0, .int .i64 0, .int .i64 0, .str (⟨#[]⟩ : ByteArray)], .int .i64 1]) σ)
      else
      bif (decide (0 < (rest2.size : Int))) then (
        bif (decide (((rest2.data.toList.getD 0 0).toNat : Int) < 33)) then (
          K (.tuple [.agg [.int .i64 0, .int .i64 0, .int .i64 0, .str (⟨#[]⟩ : ByteArray)], .int .i64 1]) σ)
        else
        bif (decide (0 < (rest2.size : Int))) then (
          bif (decide (((rest2.data.toList.getD 0 0).toNat : Int) > 126)) then (
            K (.tuple [.agg [.int .i64 0, .int .i64 0, .int .i64 0, .str (⟨#[]⟩ : ByteArray)], .int .i64 1]) σ)
          else
          bif (decide (1 < (rest2.size : Int))) then (
            bif (((rest2.data.toList.getD 1 0).toNat : Int) != 32) then (
              K (.tuple [.agg [.int .i64 0, .int .i64 0, .int .i64 0, .str (⟨#[]⟩ : ByteArray)], .int .i64 1]) σ)
            else
            bif (decide ((rest2.size : Int) > 42)) then (
              K (.tuple [.agg [.int .i64 0, .int .i64 0, .int .i64 0, .str (⟨#[]⟩ : ByteArray)], .int .i64 2]) σ)
            else
            bif ((decide (2 ≤ (rest2.size : Int))) && (decide ((rest2.size : Int) ≤ (rest2.size : Int)))) then (
              (w.ref21_Parse (rest2.extract 2 rest2.size) σ).bind fun q23 =>
              bif (decide (0 < (rest2.size : Int))) then (
                bif ((decide (2 ≤ (rest2.size : Int))) && (decide ((rest2.size : Int) ≤ (rest2.size : Int)))) then (
                  bif (q23.1.2 == 0) then (
                    bif (!(decide (q23.1.1.Kind < 16))) then (
                      K (.tuple [.agg [.int .i64 0, .int .i64 0, .int .i64 0, .str (⟨#[]⟩ : ByteArray)], .int .i64 1]) q23.2)
                    else
                    K (.tuple [.agg [.int .i64 kind1, .int .i64 (IntKind.i64.wrap ((rest2.data.toList.getD 0 0).toNat : Int)), .int .i64 0, .str (rest2.extract 2 rest2.size)], .int .i64 0]) q23.2)
                  else K (.tuple [.agg [.int .i64 0, .int .i64 0, .int .i64 0, .str (⟨#[]⟩ : ByteArray)], .int .i64 1]) q23.2)
                else none)
              else none)
            else none)
          else none)
        else none)
      else none)
    else K (.tuple [.agg [.int .i64 0, .int .i64 0, .int .i64 0, .str (⟨#[]⟩ : ByteArray)], .int .i64 1]) σ := by kernel_rfl
end Go.Abs.TD
