/-
Lifted functions: what the machine does, one equation for each entry and each loop (printed by lift.py).
-/
import Derived.Test.YtlfndndmegjnlaaDoorSigD
namespace Go.Abs.TD
open Go Go.Abs Go.Proofs
/-! command_Print -/
set_option maxRecDepth 100000 in
theorem command_Print_eq {R : Type} (w : C_command_Print) (L : Nat) (c1 : command_Command) (σ : Heap) (K : AVal → Heap → Option R) :
    callC T (O_command_Print w) L 2 15 [.agg [.int .i64 c1.Kind, .int .i64 c1.N, .int .i64 c1.M, .str c1.Text]] σ K =
    bif (decide (c1.Kind < 0)) then (
      K (.str (⟨#[]⟩ : ByteArray)) σ)
    else
    bif (decide (c1.Kind > 17)) then (
      K (.str (⟨#[]⟩ : ByteArray)) σ)
    else
    bif ((decide (0 ≤ c1.Kind)) && (decide (c1.Kind < 18))) then (
      (str? (Heap.cell? σ 0 (0 + c1.Kind.toNat * 1))).bind fun x2 =>
      bif (c1.Kind == 3) then (
        bif (c1.Kind == 3) then (
          (w.strconv_Itoa c1.N σ).bind fun q3 =>
          if (⟨#[32]⟩ : ByteArray).size + q3.1.size ≤ 9223372036854775807 then (
            if x2.size + ((⟨#[32]⟩ : ByteArray) ++ q3.1).size ≤ 9223372036854775807 then (
              K (.str (x2 ++ ((⟨#[32]⟩ : ByteArray) ++ q3.1))) q3.2)
            else (
              none))
          else (
            none))
        else
        bif (c1.Kind == 7) then (
          bif (c1.Kind == 7) then (
            (w.strconv_Itoa c1.N (Heap.frz σ)).bind fun q4 =>
            if (⟨#[32]⟩ : ByteArray).size + q4.1.size ≤ 9223372036854775807 then (
              if ((⟨#[32]⟩ : ByteArray) ++ q4.1).size + (⟨#[47]⟩ : ByteArray).size ≤ 9223372036854775807 then (
                (w.strconv_Itoa c1.M (Heap.frz (Heap.back σ q4.2))).bind fun q5 =>
                if (((⟨#[32]⟩ : ByteArray) ++ q4.1) ++ (⟨#[47]⟩ : ByteArray)).size + q5.1.size ≤ 9223372036854775807 then (
                  if x2.size + ((((⟨#[32]⟩ : ByteArray) ++ q4.1) ++ (⟨#[47]⟩ : ByteArray)) ++ q5.1).size ≤ 9223372036854775807 then (
                    K (.str (x2 ++ ((((⟨#[32]⟩ : ByteArray) ++ q4.1) ++ (⟨#[47]⟩ : ByteArray)) ++ q5.1))) (Heap.back (Heap.back σ q4.2) q5.2))
                  else (
                    none))
                else (
                  none))
              else (
                none))
            else (
              none))
          else
          bif (c1.Kind == 4) then (
            bif (c1.Kind == 4) then (
              if (⟨#[32]⟩ : ByteArray).size + c1.Text.size ≤ 9223372036854775807 then (
                if x2.size + ((⟨#[32]⟩ : ByteArray) ++ c1.Text).size ≤ 9223372036854775807 then (
                  K (.str (x2 ++ ((⟨#[32]⟩ : ByteArray) ++ c1.Text))) σ)
                else (
                  none))
              else (
                none))
            else
            bif (c1.Kind == 16) then (
              alloc σ [.int .u8 (IntKind.u8.wrap c1.N)] fun b6 σ7 =>
              (Heap.read σ7 (some b6) 0 1 1).bind fun cs8 =>
              (bytesOf cs8).bind fun bs9 =>
              if (⟨#[32]⟩ : ByteArray).size + (⟨bs9.toArray⟩ : ByteArray).size ≤ 9223372036854775807 then (
                if ((⟨#[32]⟩ : ByteArray) ++ (⟨bs9.toArray⟩ : ByteArray)).size + (⟨#[32]⟩ : ByteArray).size ≤ 9223372036854775807 then (
                  if (((⟨#[32]⟩ : ByteArray) ++ (⟨bs9.toArray⟩ : ByteArray)) ++ (⟨#[32]⟩ : ByteArray)).size + c1.Text.size ≤ 9223372036854775807 then (
                    if x2.size + ((((⟨#[32]⟩ : ByteArray) ++ (⟨bs9.toArray⟩ : ByteArray)) ++ (⟨#[32]⟩ : ByteArray)) ++ c1.Text).size ≤ 9223372036854775807 then (
                      K (.str (x2 ++ ((((⟨#[32]⟩ : ByteArray) ++ (⟨bs9.toArray⟩ : ByteArray)) ++ (⟨#[32]⟩ : ByteArray)) ++ c1.Text))) σ7)
                    else (
                      none))
                  else (
                    none))
                else (
                  none))
              else (
                none))
            else
            bif (c1.Kind == 17) then (
              alloc σ [.int .u8 (IntKind.u8.wrap c1.N)] fun b10 σ11 =>
              (Heap.read σ11 (some b10) 0 1 1).bind fun cs12 =>
              (bytesOf cs12).bind fun bs13 =>
              if (⟨#[32]⟩ : ByteArray).size + (⟨bs13.toArray⟩ : ByteArray).size ≤ 9223372036854775807 then (
                if x2.size + ((⟨#[32]⟩ : ByteArray) ++ (⟨bs13.toArray⟩ : ByteArray)).size ≤ 9223372036854775807 then (
                  K (.str (x2 ++ ((⟨#[32]⟩ : ByteArray) ++ (⟨bs13.toArray⟩ : ByteArray)))) σ11)
                else (
                  none))
              else (
                none))
            else K (.str x2) σ)
          else
          bif (c1.Kind == 6) then (
            if (⟨#[32]⟩ : ByteArray).size + c1.Text.size ≤ 9223372036854775807 then (
              if x2.size + ((⟨#[32]⟩ : ByteArray) ++ c1.Text).size ≤ 9223372036854775807 then (
                K (.str (x2 ++ ((⟨#[32]⟩ : ByteArray) ++ c1.Text))) σ)
              else (
                none))
            else (
              none))
          else
          bif (c1.Kind == 16) then (
            alloc σ [.int .u8 (IntKind.u8.wrap c1.N)] fun b14 σ15 =>
            (Heap.read σ15 (some b14) 0 1 1).bind fun cs16 =>
            (bytesOf cs16).bind fun bs17 =>
            if (⟨#[32]⟩ : ByteArray).size + (⟨bs17.toArray⟩ : ByteArray).size ≤ 9223372036854775807 then (
              if ((⟨#[32]⟩ : ByteArray) ++ (⟨bs17.toArray⟩ : ByteArray)).size + (⟨#[32]⟩ : ByteArray).size ≤ 9223372036854775807 then (
                if (((⟨#[32]⟩ : ByteArray) ++ (⟨bs17.toArray⟩ : ByteArray)) ++ (⟨#[32]⟩ : ByteArray)).size + c1.Text.size ≤ 9223372036854775807 then (
                  if x2.size + ((((⟨#[32]⟩ : ByteArray) ++ (⟨bs17.toArray⟩ : ByteArray)) ++ (⟨#[32]⟩ : ByteArray)) ++ c1.Text).size ≤ 9223372036854775807 then (
                    K (.str (x2 ++ ((((⟨#[32]⟩ : ByteArray) ++ (⟨bs17.toArray⟩ : ByteArray)) ++ (⟨#[32]⟩ : ByteArray)) ++ c1.Text))) σ15)
                  else (
                    none))
                else (
                  none))
              else (
                none))
            else (
              none))
          else
          bif (c1.Kind == 17) then (
            alloc σ [.int .u8 (IntKind.u8.wrap c1.N)] fun b18 σ19 =>
            (Heap.read σ19 (some b18) 0 1 1).bind fun cs20 =>
            (bytesOf cs20).bind fun bs21 =>
            if (⟨#[32]⟩ : ByteArray).size + (⟨bs21.toArray⟩ : ByteArray).size ≤ 9223372036854775807 then (
              if x2.size + ((⟨#[32]⟩ : ByteArray) ++ (⟨bs21.toArray⟩ : ByteArray)).size ≤ 9223372036854775807 then (
                K (.str (x2 ++ ((⟨#[32]⟩ : ByteArray) ++ (⟨bs21.toArray⟩ : ByteArray)))) σ19)
              else (
                none))
            else (
              none))
          else K (.str x2) σ)
        else
        bif (c1.Kind == 13) then (
          (w.strconv_Itoa c1.N (Heap.frz σ)).bind fun q22 =>
          if (⟨#[32]⟩ : ByteArray).size + q22.1.size ≤ 9223372036854775807 then (
            if ((⟨#[32]⟩ : ByteArray) ++ q22.1).size + (⟨#[47]⟩ : ByteArray).size ≤ 9223372036854775807 then (
              (w.strconv_Itoa c1.M (Heap.frz (Heap.back σ q22.2))).bind fun q23 =>
              if (((⟨#[32]⟩ : ByteArray) ++ q22.1) ++ (⟨#[47]⟩ : ByteArray)).size + q23.1.size ≤ 9223372036854775807 then (
                if x2.size + ((((⟨#[32]⟩ : ByteArray) ++ q22.1) ++ (⟨#[47]⟩ : ByteArray)) ++ q23.1).size ≤ 9223372036854775807 then (
                  K (.str (x2 ++ ((((⟨#[32]⟩ : ByteArray) ++ q22.1) ++ (⟨#[47]⟩ : ByteArray)) ++ q23.1))) (Heap.back (Heap.back σ q22.2) q23.2))
                else (
                  none))
              else (
                none))
            else (
              none))
          else (
            none))
        else
        bif (c1.Kind == 4) then (
          bif (c1.Kind == 4) then (
            if (⟨#[32]⟩ : ByteArray).size + c1.Text.size ≤ 9223372036854775807 then (
              if x2.size + ((⟨#[32]⟩ : ByteArray) ++ c1.Text).size ≤ 9223372036854775807 then (
                K (.str (x2 ++ ((⟨#[32]⟩ : ByteArray) ++ c1.Text))) σ)
              else (
                none))
            else (
              none))
          else
          bif (c1.Kind == 16) then (
            alloc σ [.int .u8 (IntKind.u8.wrap c1.N)] fun b24 σ25 =>
            (Heap.read σ25 (some b24) 0 1 1).bind fun cs26 =>
            (bytesOf cs26).bind fun bs27 =>
            if (⟨#[32]⟩ : ByteArray).size + (⟨bs27.toArray⟩ : ByteArray).size ≤ 9223372036854775807 then (
              if ((⟨#[32]⟩ : ByteArray) ++ (⟨bs27.toArray⟩ : ByteArray)).size + (⟨#[32]⟩ : ByteArray).size ≤ 9223372036854775807 then (
                if (((⟨#[32]⟩ : ByteArray) ++ (⟨bs27.toArray⟩ : ByteArray)) ++ (⟨#[32]⟩ : ByteArray)).size + c1.Text.size ≤ 9223372036854775807 then (
                  if x2.size + ((((⟨#[32]⟩ : ByteArray) ++ (⟨bs27.toArray⟩ : ByteArray)) ++ (⟨#[32]⟩ : ByteArray)) ++ c1.Text).size ≤ 9223372036854775807 then (
                    K (.str (x2 ++ ((((⟨#[32]⟩ : ByteArray) ++ (⟨bs27.toArray⟩ : ByteArray)) ++ (⟨#[32]⟩ : ByteArray)) ++ c1.Text))) σ25)
                  else (
                    none))
                else (
                  none))
              else (
                none))
            else (
              none))
          else
          bif (c1.Kind == 17) then (
            alloc σ [.int .u8 (IntKind.u8.wrap c1.N)] fun b28 σ29 =>
            (Heap.read σ29 (some b28) 0 1 1).bind fun cs30 =>
            (bytesOf cs30).bind fun bs31 =>
            if (⟨#[32]⟩ : ByteArray).size + (⟨bs31.toArray⟩ : ByteArray).size ≤ 9223372036854775807 then (
              if x2.size + ((⟨#[32]⟩ : ByteArray) ++ (⟨bs31.toArray⟩ : ByteArray)).size ≤ 9223372036854775807 then (
                K (.str (x2 ++ ((⟨#[32]⟩ : ByteArray) ++ (⟨bs31.toArray⟩ : ByteArray)))) σ29)
              else (
                none))
            else (
              none))
          else K (.str x2) σ)
        else
        bif (c1.Kind == 6) then (
          if (⟨#[32]⟩ : ByteArray).size + c1.Text.size ≤ 9223372036854775807 then (
            if x2.size + ((⟨#[32]⟩ : ByteArray) ++ c1.Text).size ≤ 9223372036854775807 then (
              K (.str (x2 ++ ((⟨#[32]⟩ : ByteArray) ++ c1.Text))) σ)
            else (
              none))
          else (
            none))
        else
        bif (c1.Kind == 16) then (
          alloc σ [.int .u8 (IntKind.u8.wrap c1.N)] fun b32 σ33 =>
          (Heap.read σ33 (some b32) 0 1 1).bind fun cs34 =>
          (bytesOf cs34).bind fun bs35 =>
          if (⟨#[32]⟩ : ByteArray).size + (⟨bs35.toArray⟩ : ByteArray).size ≤ 9223372036854775807 then (
            if ((⟨#[32]⟩ : ByteArray) ++ (⟨bs35.toArray⟩ : ByteArray)).size + (⟨#[32]⟩ : ByteArray).size ≤ 9223372036854775807 then (
              if (((⟨#[32]⟩ : ByteArray) ++ (⟨bs35.toArray⟩ : ByteArray)) ++ (⟨#[32]⟩ : ByteArray)).size + c1.Text.size ≤ 9223372036854775807 then (
                if x2.size + ((((⟨#[32]⟩ : ByteArray) ++ (⟨bs35.toArray⟩ : ByteArray)) ++ (⟨#[32]⟩ : ByteArray)) ++ c1.Text).size ≤ 9223372036854775807 then (
                  K (.str (x2 ++ ((((⟨#[32]⟩ : ByteArray) ++ (⟨bs35.toArray⟩ : ByteArray)) ++ (⟨#[32]⟩ : ByteArray)) ++ c1.Text))) σ33)
                else (
                  none))
              else (
                none))
            else (
              none))
          else (
            none))
        else
        bif (c1.Kind == 17) then (
          alloc σ [.int .u8 (IntKind.u8.wrap c1.N)] fun b36 σ37 =>
          (Heap.read σ37 (some b36) 0 1 1).bind fun cs38 =>
          (bytesOf cs38).bind fun bs39 =>
          if (⟨#[32]⟩ : ByteArray).size + (⟨bs39.toArray⟩ : ByteArray).size ≤ 9223372036854775807 then (
            if x2.size + ((⟨#[32]⟩ : ByteArray) ++ (⟨bs39.toArray⟩ : ByteArray)).size ≤ 9223372036854775807 then (
              K (.str (x2 ++ ((⟨#[32]⟩ : ByteArray) ++ (⟨bs39.toArray⟩ : ByteArray)))) σ37)
            else (
              none))
          else (
            none))
        else K (.str x2) σ)
      else
      bif (c1.Kind == 5) then (
        bif (c1.Kind == 5) then (
          (w.strconv_Itoa c1.N σ).bind fun q40 =>
          if (⟨#[32]⟩ : ByteArray).size + q40.1.size ≤ 9223372036854775807 then (
            if x2.size + ((⟨#[32]⟩ : ByteArray) ++ q40.1).size ≤ 9223372036854775807 then (
              K (.str (x2 ++ ((⟨#[32]⟩ : ByteArray) ++ q40.1))) q40.2)
            else (
              none))
          else (
            none))
        else
        bif (c1.Kind == 7) then (
          bif (c1.Kind == 7) then (
            (w.strconv_Itoa c1.N (Heap.frz σ)).bind fun q41 =>
            if (⟨#[32]⟩ : ByteArray).size + q41.1.size ≤ 9223372036854775807 then (
              if ((⟨#[32]⟩ : ByteArray) ++ q41.1).size + (⟨#[47]⟩ : ByteArray).size ≤ 9223372036854775807 then (
                (w.strconv_Itoa c1.M (Heap.frz (Heap.back σ q41.2))).bind fun q42 =>
                if (((⟨#[32]⟩ : ByteArray) ++ q41.1) ++ (⟨#[47]⟩ : ByteArray)).size + q42.1.size ≤ 9223372036854775807 then (
                  if x2.size + ((((⟨#[32]⟩ : ByteArray) ++ q41.1) ++ (⟨#[47]⟩ : ByteArray)) ++ q42.1).size ≤ 9223372036854775807 then (
                    K (.str (x2 ++ ((((⟨#[32]⟩ : ByteArray) ++ q41.1) ++ (⟨#[47]⟩ : ByteArray)) ++ q42.1))) (Heap.back (Heap.back σ q41.2) q42.2))
                  else (
                    none))
                else (
                  none))
              else (
                none))
            else (
              none))
          else
          bif (c1.Kind == 4) then (
            bif (c1.Kind == 4) then (
              if (⟨#[32]⟩ : ByteArray).size + c1.Text.size ≤ 9223372036854775807 then (
                if x2.size + ((⟨#[32]⟩ : ByteArray) ++ c1.Text).size ≤ 9223372036854775807 then (
                  K (.str (x2 ++ ((⟨#[32]⟩ : ByteArray) ++ c1.Text))) σ)
                else (
                  none))
              else (
                none))
            else
            bif (c1.Kind == 16) then (
              alloc σ [.int .u8 (IntKind.u8.wrap c1.N)] fun b43 σ44 =>
              (Heap.read σ44 (some b43) 0 1 1).bind fun cs45 =>
              (bytesOf cs45).bind fun bs46 =>
              if (⟨#[32]⟩ : ByteArray).size + (⟨bs46.toArray⟩ : ByteArray).size ≤ 9223372036854775807 then (
                if ((⟨#[32]⟩ : ByteArray) ++ (⟨bs46.toArray⟩ : ByteArray)).size + (⟨#[32]⟩ : ByteArray).size ≤ 9223372036854775807 then (
                  if (((⟨#[32]⟩ : ByteArray) ++ (⟨bs46.toArray⟩ : ByteArray)) ++ (⟨#[32]⟩ : ByteArray)).size + c1.Text.size ≤ 9223372036854775807 then (
                    if x2.size + ((((⟨#[32]⟩ : ByteArray) ++ (⟨bs46.toArray⟩ : ByteArray)) ++ (⟨#[32]⟩ : ByteArray)) ++ c1.Text).size ≤ 9223372036854775807 then (
                      K (.str (x2 ++ ((((⟨#[32]⟩ : ByteArray) ++ (⟨bs46.toArray⟩ : ByteArray)) ++ (⟨#[32]⟩ : ByteArray)) ++ c1.Text))) σ44)
                    else (
                      none))
                  else (
                    none))
                else (
                  none))
              else (
                none))
            else
            bif (c1.Kind == 17) then (
              alloc σ [.int .u8 (IntKind.u8.wrap c1.N)] fun b47 σ48 =>
              (Heap.read σ48 (some b47) 0 1 1).bind fun cs49 =>
              (bytesOf cs49).bind fun bs50 =>
              if (⟨#[32]⟩ : ByteArray).size + (⟨bs50.toArray⟩ : ByteArray).size ≤ 9223372036854775807 then (
                if x2.size + ((⟨#[32]⟩ : ByteArray) ++ (⟨bs50.toArray⟩ : ByteArray)).size ≤ 9223372036854775807 then (
                  K (.str (x2 ++ ((⟨#[32]⟩ : ByteArray) ++ (⟨bs50.toArray⟩ : ByteArray)))) σ48)
                else (
                  none))
              else (
                none))
            else K (.str x2) σ)
          else
          bif (c1.Kind == 6) then (
            if (⟨#[32]⟩ : ByteArray).size + c1.Text.size ≤ 9223372036854775807 then (
              if x2.size + ((⟨#[32]⟩ : ByteArray) ++ c1.Text).size ≤ 9223372036854775807 then (
                K (.str (x2 ++ ((⟨#[32]⟩ : ByteArray) ++ c1.Text))) σ)
              else (
                none))
            else (
              none))
          else
          bif (c1.Kind == 16) then (
            alloc σ [.int .u8 (IntKind.u8.wrap c1.N)] fun b51 σ52 =>
            (Heap.read σ52 (some b51) 0 1 1).bind fun cs53 =>
            (bytesOf cs53).bind fun bs54 =>
            if (⟨#[32]⟩ : ByteArray).size + (⟨bs54.toArray⟩ : ByteArray).size ≤ 9223372036854775807 then (
              if ((⟨#[32]⟩ : ByteArray) ++ (⟨bs54.toArray⟩ : ByteArray)).size + (⟨#[32]⟩ : ByteArray).size ≤ 9223372036854775807 then (
                if (((⟨#[32]⟩ : ByteArray) ++ (⟨bs54.toArray⟩ : ByteArray)) ++ (⟨#[32]⟩ : ByteArray)).size + c1.Text.size ≤ 9223372036854775807 then (
                  if x2.size + ((((⟨#[32]⟩ : ByteArray) ++ (⟨bs54.toArray⟩ : ByteArray)) ++ (⟨#[32]⟩ : ByteArray)) ++ c1.Text).size ≤ 9223372036854775807 then (
                    K (.str (x2 ++ ((((⟨#[32]⟩ : ByteArray) ++ (⟨bs54.toArray⟩ : ByteArray)) ++ (⟨#[32]⟩ : ByteArray)) ++ c1.Text))) σ52)
                  else (
                    none))
                else (
                  none))
              else (
                none))
            else (
              none))
          else
          bif (c1.Kind == 17) then (
            alloc σ [.int .u8 (IntKind.u8.wrap c1.N)] fun b55 σ56 =>
            (Heap.read σ56 (some b55) 0 1 1).bind fun cs57 =>
            (bytesOf cs57).bind fun bs58 =>
            if (⟨#[32]⟩ : ByteArray).size + (⟨bs58.toArray⟩ : ByteArray).size ≤ 9223372036854775807 then (
              if x2.size + ((⟨#[32]⟩ : ByteArray) ++ (⟨bs58.toArray⟩ : ByteArray)).size ≤ 9223372036854775807 then (
                K (.str (x2 ++ ((⟨#[32]⟩ : ByteArray) ++ (⟨bs58.toArray⟩ : ByteArray)))) σ56)
              else (
                none))
            else (
              none))
          else K (.str x2) σ)
        else
        bif (c1.Kind == 13) then (
          (w.strconv_Itoa c1.N (Heap.frz σ)).bind fun q59 =>
          if (⟨#[32]⟩ : ByteArray).size + q59.1.size ≤ 9223372036854775807 then (
            if ((⟨#[32]⟩ : ByteArray) ++ q59.1).size + (⟨#[47]⟩ : ByteArray).size ≤ 9223372036854775807 then (
              (w.strconv_Itoa c1.M (Heap.frz (Heap.back σ q59.2))).bind fun q60 =>
              if (((⟨#[32]⟩ : ByteArray) ++ q59.1) ++ (⟨#[47]⟩ : ByteArray)).size + q60.1.size ≤ 9223372036854775807 then (
                if x2.size + ((((⟨#[32]⟩ : ByteArray) ++ q59.1) ++ (⟨#[47]⟩ : ByteArray)) ++ q60.1).size ≤ 9223372036854775807 then (
                  K (.str (x2 ++ ((((⟨#[32]⟩ : ByteArray) ++ q59.1) ++ (⟨#[47]⟩ : ByteArray)) ++ q60.1))) (Heap.back (Heap.back σ q59.2) q60.2))
                else (
                  none))
              else (
                none))
            else (
              none))
          else (
            none))
        else
        bif (c1.Kind == 4) then (
          bif (c1.Kind == 4) then (
            if (⟨#[32]⟩ : ByteArray).size + c1.Text.size ≤ 9223372036854775807 then (
              if x2.size + ((⟨#[32]⟩ : ByteArray) ++ c1.Text).size ≤ 9223372036854775807 then (
                K (.str (x2 ++ ((⟨#[32]⟩ : ByteArray) ++ c1.Text))) σ)
              else (
                none))
            else (
              none))
          else
          bif (c1.Kind == 16) then (
            alloc σ [.int .u8 (IntKind.u8.wrap c1.N)] fun b61 σ62 =>
            (Heap.read σ62 (some b61) 0 1 1).bind fun cs63 =>
            (bytesOf cs63).bind fun bs64 =>
            if (⟨#[32]⟩ : ByteArray).size + (⟨bs64.toArray⟩ : ByteArray).size ≤ 9223372036854775807 then (
              if ((⟨#[32]⟩ : ByteArray) ++ (⟨bs64.toArray⟩ : ByteArray)).size + (⟨#[32]⟩ : ByteArray).size ≤ 9223372036854775807 then (
                if (((⟨#[32]⟩ : ByteArray) ++ (⟨bs64.toArray⟩ : ByteArray)) ++ (⟨#[32]⟩ : ByteArray)).size + c1.Text.size ≤ 9223372036854775807 then (
                  if x2.size + ((((⟨#[32]⟩ : ByteArray) ++ (⟨bs64.toArray⟩ : ByteArray)) ++ (⟨#[32]⟩ : ByteArray)) ++ c1.Text).size ≤ 9223372036854775807 then (
                    K (.str (x2 ++ ((((⟨#[32]⟩ : ByteArray) ++ (⟨bs64.toArray⟩ : ByteArray)) ++ (⟨#[32]⟩ : ByteArray)) ++ c1.Text))) σ62)
                  else (
                    none))
                else (
                  none))
              else (
                none))
            else (
              none))
          else
          bif (c1.Kind == 17) then (
            alloc σ [.int .u8 (IntKind.u8.wrap c1.N)] fun b65 σ66 =>
            (Heap.read σ66 (some b65) 0 1 1).bind fun cs67 =>
            (bytesOf cs67).bind fun bs68 =>
            if (⟨#[32]⟩ : ByteArray).size + (⟨bs68.toArray⟩ : ByteArray).size ≤ 9223372036854775807 then (
              if x2.size + ((⟨#[32]⟩ : ByteArray) ++ (⟨bs68.toArray⟩ : ByteArray)).size ≤ 9223372036854775807 then (
                K (.str (x2 ++ ((⟨#[32]⟩ : ByteArray) ++ (⟨bs68.toArray⟩ : ByteArray)))) σ66)
              else (
                none))
            else (
              none))
          else K (.str x2) σ)
        else
        bif (c1.Kind == 6) then (
          if (⟨#[32]⟩ : ByteArray).size + c1.Text.size ≤ 9223372036854775807 then (
            if x2.size + ((⟨#[32]⟩ : ByteArray) ++ c1.Text).size ≤ 9223372036854775807 then (
              K (.str (x2 ++ ((⟨#[32]⟩ : ByteArray) ++ c1.Text))) σ)
            else (
              none))
          else (
            none))
        else
        bif (c1.Kind == 16) then (
          alloc σ [.int .u8 (IntKind.u8.wrap c1.N)] fun b69 σ70 =>
          (Heap.read σ70 (some b69) 0 1 1).bind fun cs71 =>
          (bytesOf cs71).bind fun bs72 =>
          if (⟨#[32]⟩ : ByteArray).size + (⟨bs72.toArray⟩ : ByteArray).size ≤ 9223372036854775807 then (
            if ((⟨#[32]⟩ : ByteArray) ++ (⟨bs72.toArray⟩ : ByteArray)).size + (⟨#[32]⟩ : ByteArray).size ≤ 9223372036854775807 then (
              if (((⟨#[32]⟩ : ByteArray) ++ (⟨bs72.toArray⟩ : ByteArray)) ++ (⟨#[32]⟩ : ByteArray)).size + c1.Text.size ≤ 9223372036854775807 then (
                if x2.size + ((((⟨#[32]⟩ : ByteArray) ++ (⟨bs72.toArray⟩ : ByteArray)) ++ (⟨#[32]⟩ : ByteArray)) ++ c1.Text).size ≤ 9223372036854775807 then (
                  K (.str (x2 ++ ((((⟨#[32]⟩ : ByteArray) ++ (⟨bs72.toArray⟩ : ByteArray)) ++ (⟨#[32]⟩ : ByteArray)) ++ c1.Text))) σ70)
                else (
                  none))
              else (
                none))
            else (
              none))
          else (
            none))
        else
        bif (c1.Kind == 17) then (
          alloc σ [.int .u8 (IntKind.u8.wrap c1.N)] fun b73 σ74 =>
          (Heap.read σ74 (some b73) 0 1 1).bind fun cs75 =>
          (bytesOf cs75).bind fun bs76 =>
          if (⟨#[32]⟩ : ByteArray).size + (⟨bs76.toArray⟩ : ByteArray).size ≤ 9223372036854775807 then (
            if x2.size + ((⟨#[32]⟩ : ByteArray) ++ (⟨bs76.toArray⟩ : ByteArray)).size ≤ 9223372036854775807 then (
              K (.str (x2 ++ ((⟨#[32]⟩ : ByteArray) ++ (⟨bs76.toArray⟩ : ByteArray)))) σ74)
            else (
              none))
          else (
            none))
        else K (.str x2) σ)
      else
      bif (c1.Kind == 14) then (
        (w.strconv_Itoa c1.N σ).bind fun q77 =>
        if (⟨#[32]⟩ : ByteArray).size + q77.1.size ≤ 9223372036854775807 then (
          if x2.size + ((⟨#[32]⟩ : ByteArray) ++ q77.1).size ≤ 9223372036854775807 then (
            K (.str (x2 ++ ((⟨#[32]⟩ : ByteArray) ++ q77.1))) q77.2)
          else (
            none))
        else (
          none))
      else
      bif (c1.Kind == 7) then (
        bif (c1.Kind == 7) then (
          (w.strconv_Itoa c1.N (Heap.frz σ)).bind fun q78 =>
          if (⟨#[32]⟩ : ByteArray).size + q78.1.size ≤ 9223372036854775807 then (
            if ((⟨#[32]⟩ : ByteArray) ++ q78.1).size + (⟨#[47]⟩ : ByteArray).size ≤ 9223372036854775807 then (
              (w.strconv_Itoa c1.M (Heap.frz (Heap.back σ q78.2))).bind fun q79 =>
              if (((⟨#[32]⟩ : ByteArray) ++ q78.1) ++ (⟨#[47]⟩ : ByteArray)).size + q79.1.size ≤ 9223372036854775807 then (
                if x2.size + ((((⟨#[32]⟩ : ByteArray) ++ q78.1) ++ (⟨#[47]⟩ : ByteArray)) ++ q79.1).size ≤ 9223372036854775807 then (
                  K (.str (x2 ++ ((((⟨#[32]⟩ : ByteArray) ++ q78.1) ++ (⟨#[47]⟩ : ByteArray)) ++ q79.1))) (Heap.back (Heap.back σ q78.2) q79.2))
                else (
                  none))
              else (
                none))
            else (
              none))
          else (
            none))
        else
        bif (c1.Kind == 4) then (
          bif (c1.Kind == 4) then (
            if (⟨#[32]⟩ : ByteArray).size + c1.Text.size ≤ 9223372036854775807 then (
              if x2.size + ((⟨#[32]⟩ : ByteArray) ++ c1.Text).size ≤ 9223372036854775807 then (
                K (.str (x2 ++ ((⟨#[32]⟩ : ByteArray) ++ c1.Text))) σ)
              else (
                none))
            else (
              none))
          else
          bif (c1.Kind == 16) then (
            alloc σ [.int .u8 (IntKind.u8.wrap c1.N)] fun b80 σ81 =>
            (Heap.read σ81 (some b80) 0 1 1).bind fun cs82 =>
            (bytesOf cs82).bind fun bs83 =>
            if (⟨#[32]⟩ : ByteArray).size + (⟨bs83.toArray⟩ : ByteArray).size ≤ 9223372036854775807 then (
              if ((⟨#[32]⟩ : ByteArray) ++ (⟨bs83.toArray⟩ : ByteArray)).size + (⟨#[32]⟩ : ByteArray).size ≤ 9223372036854775807 then (
                if (((⟨#[32]⟩ : ByteArray) ++ (⟨bs83.toArray⟩ : ByteArray)) ++ (⟨#[32]⟩ : ByteArray)).size + c1.Text.size ≤ 9223372036854775807 then (
                  if x2.size + ((((⟨#[32]⟩ : ByteArray) ++ (⟨bs83.toArray⟩ : ByteArray)) ++ (⟨#[32]⟩ : ByteArray)) ++ c1.Text).size ≤ 9223372036854775807 then (
                    K (.str (x2 ++ ((((⟨#[32]⟩ : ByteArray) ++ (⟨bs83.toArray⟩ : ByteArray)) ++ (⟨#[32]⟩ : ByteArray)) ++ c1.Text))) σ81)
                  else (
                    none))
                else (
                  none))
              else (
                none))
            else (
              none))
          else
          bif (c1.Kind == 17) then (
            alloc σ [.int .u8 (IntKind.u8.wrap c1.N)] fun b84 σ85 =>
            (Heap.read σ85 (some b84) 0 1 1).bind fun cs86 =>
            (bytesOf cs86).bind fun bs87 =>
            if (⟨#[32]⟩ : ByteArray).size + (⟨bs87.toArray⟩ : ByteArray).size ≤ 9223372036854775807 then (
              if x2.size + ((⟨#[32]⟩ : ByteArray) ++ (⟨bs87.toArray⟩ : ByteArray)).size ≤ 9223372036854775807 then (
                K (.str (x2 ++ ((⟨#[32]⟩ : ByteArray) ++ (⟨bs87.toArray⟩ : ByteArray)))) σ85)
              else (
                none))
            else (
              none))
          else K (.str x2) σ)
        else
        bif (c1.Kind == 6) then (
          if (⟨#[32]⟩ : ByteArray).size + c1.Text.size ≤ 9223372036854775807 then (
            if x2.size + ((⟨#[32]⟩ : ByteArray) ++ c1.Text).size ≤ 9223372036854775807 then (
              K (.str (x2 ++ ((⟨#[32]⟩ : ByteArray) ++ c1.Text))) σ)
            else (
              none))
          else (
            none))
        else
        bif (c1.Kind == 16) then (
          alloc σ [.int .u8 (IntKind.u8.wrap c1.N)] fun b88 σ89 =>
          (Heap.read σ89 (some b88) 0 1 1).bind fun cs90 =>
          (bytesOf cs90).bind fun bs91 =>
          if (⟨#[32]⟩ : ByteArray).size + (⟨bs91.toArray⟩ : ByteArray).size ≤ 9223372036854775807 then (
            if ((⟨#[32]⟩ : ByteArray) ++ (⟨bs91.toArray⟩ : ByteArray)).size + (⟨#[32]⟩ : ByteArray).size ≤ 9223372036854775807 then (
              if (((⟨#[32]⟩ : ByteArray) ++ (⟨bs91.toArray⟩ : ByteArray)) ++ (⟨#[32]⟩ : ByteArray)).size + c1.Text.size ≤ 9223372036854775807 then (
                if x2.size + ((((⟨#[32]⟩ : ByteArray) ++ (⟨bs91.toArray⟩ : ByteArray)) ++ (⟨#[32]⟩ : ByteArray)) ++ c1.Text).size ≤ 9223372036854775807 then (
                  K (.str (x2 ++ ((((⟨#[32]⟩ : ByteArray) ++ (⟨bs91.toArray⟩ : ByteArray)) ++ (⟨#[32]⟩ : ByteArray)) ++ c1.Text))) σ89)
                else (
                  none))
              else (
                none))
            else (
              none))
          else (
            none))
        else
        bif (c1.Kind == 17) then (
          alloc σ [.int .u8 (IntKind.u8.wrap c1.N)] fun b92 σ93 =>
          (Heap.read σ93 (some b92) 0 1 1).bind fun cs94 =>
          (bytesOf cs94).bind fun bs95 =>
          if (⟨#[32]⟩ : ByteArray).size + (⟨bs95.toArray⟩ : ByteArray).size ≤ 9223372036854775807 then (
            if x2.size + ((⟨#[32]⟩ : ByteArray) ++ (⟨bs95.toArray⟩ : ByteArray)).size ≤ 9223372036854775807 then (
              K (.str (x2 ++ ((⟨#[32]⟩ : ByteArray) ++ (⟨bs95.toArray⟩ : ByteArray)))) σ93)
            else (
              none))
          else (
            none))
        else K (.str x2) σ)
      else
      bif (c1.Kind == 13) then (
        (w.strconv_Itoa c1.N (Heap.frz σ)).bind fun q96 =>
        if (⟨#[32]⟩ : ByteArray).size + q96.1.size ≤ 9223372036854775807 then (
          if ((⟨#[32]⟩ : ByteArray) ++ q96.1).size + (⟨#[47]⟩ : ByteArray).size ≤ 9223372036854775807 then (
            (w.strconv_Itoa c1.M (Heap.frz (Heap.back σ q96.2))).bind fun q97 =>
            if (((⟨#[32]⟩ : ByteArray) ++ q96.1) ++ (⟨#[47]⟩ : ByteArray)).size + q97.1.size ≤ 9223372036854775807 then (
              if x2.size + ((((⟨#[32]⟩ : ByteArray) ++ q96.1) ++ (⟨#[47]⟩ : ByteArray)) ++ q97.1).size ≤ 9223372036854775807 then (
                K (.str (x2 ++ ((((⟨#[32]⟩ : ByteArray) ++ q96.1) ++ (⟨#[47]⟩ : ByteArray)) ++ q97.1))) (Heap.back (Heap.back σ q96.2) q97.2))
              else (
                none))
            else (
              none))
          else (
            none))
        else (
          none))
      else
      bif (c1.Kind == 4) then (
        bif (c1.Kind == 4) then (
          if (⟨#[32]⟩ : ByteArray).size + c1.Text.size ≤ 9223372036854775807 then (
            if x2.size + ((⟨#[32]⟩ : ByteArray) ++ c1.Text).size ≤ 9223372036854775807 then (
              K (.str (x2 ++ ((⟨#[32]⟩ : ByteArray) ++ c1.Text))) σ)
            else (
              none))
          else (
            none))
        else
        bif (c1.Kind == 16) then (
          alloc σ [.int .u8 (IntKind.u8.wrap c1.N)] fun b98 σ99 =>
          (Heap.read σ99 (some b98) 0 1 1).bind fun cs100 =>
          (bytesOf cs100).bind fun bs101 =>
          if (⟨#[32]⟩ : ByteArray).size + (⟨bs101.toArray⟩ : ByteArray).size ≤ 9223372036854775807 then (
            if ((⟨#[32]⟩ : ByteArray) ++ (⟨bs101.toArray⟩ : ByteArray)).size + (⟨#[32]⟩ : ByteArray).size ≤ 9223372036854775807 then (
              if (((⟨#[32]⟩ : ByteArray) ++ (⟨bs101.toArray⟩ : ByteArray)) ++ (⟨#[32]⟩ : ByteArray)).size + c1.Text.size ≤ 9223372036854775807 then (
                if x2.size + ((((⟨#[32]⟩ : ByteArray) ++ (⟨bs101.toArray⟩ : ByteArray)) ++ (⟨#[32]⟩ : ByteArray)) ++ c1.Text).size ≤ 9223372036854775807 then (
                  K (.str (x2 ++ ((((⟨#[32]⟩ : ByteArray) ++ (⟨bs101.toArray⟩ : ByteArray)) ++ (⟨#[32]⟩ : ByteArray)) ++ c1.Text))) σ99)
                else (
                  none))
              else (
                none))
            else (
              none))
          else (
            none))
        else
        bif (c1.Kind == 17) then (
          alloc σ [.int .u8 (IntKind.u8.wrap c1.N)] fun b102 σ103 =>
          (Heap.read σ103 (some b102) 0 1 1).bind fun cs104 =>
          (bytesOf cs104).bind fun bs105 =>
          if (⟨#[32]⟩ : ByteArray).size + (⟨bs105.toArray⟩ : ByteArray).size ≤ 9223372036854775807 then (
            if x2.size + ((⟨#[32]⟩ : ByteArray) ++ (⟨bs105.toArray⟩ : ByteArray)).size ≤ 9223372036854775807 then (
              K (.str (x2 ++ ((⟨#[32]⟩ : ByteArray) ++ (⟨bs105.toArray⟩ : ByteArray)))) σ103)
            else (
              none))
          else (
            none))
        else K (.str x2) σ)
      else
      bif (c1.Kind == 6) then (
        if (⟨#[32]⟩ : ByteArray).size + c1.Text.size ≤ 9223372036854775807 then (
          if x2.size + ((⟨#[32]⟩ : ByteArray) ++ c1.Text).size ≤ 9223372036854775807 then (
            K (.str (x2 ++ ((⟨#[32]⟩ : ByteArray) ++ c1.Text))) σ)
          else (
            none))
        else (
          none))
      else
      bif (c1.Kind == 16) then (
        alloc σ [.int .u8 (IntKind.u8.wrap c1.N)] fun b106 σ107 =>
        (Heap.read σ107 (some b106) 0 1 1).bind fun cs108 =>
        (bytesOf cs108).bind fun bs109 =>
        if (⟨#[32]⟩ : ByteArray).size + (⟨bs109.toArray⟩ : ByteArray).size ≤ 9223372036854775807 then (
          if ((⟨#[32]⟩ : ByteArray) ++ (⟨bs109.toArray⟩ : ByteArray)).size + (⟨#[32]⟩ : ByteArray).size ≤ 9223372036854775807 then (
            if (((⟨#[32]⟩ : ByteArray) ++ (⟨bs109.toArray⟩ : ByteArray)) ++ (⟨#[32]⟩ : ByteArray)).size + c1.Text.size ≤ 9223372036854775807 then (
              if x2.size + ((((⟨#[32]⟩ : ByteArray) ++ (⟨bs109.toArray⟩ : ByteArray)) ++ (⟨#[32]⟩ : ByteArray)) ++ c1.Text).size ≤ 9223372036854775807 then (
                K (.str (x2 ++ ((((⟨#[32]⟩ : ByteArray) ++ (⟨bs109.toArray⟩ : ByteArray)) ++ (⟨#[32]⟩ : ByteArray)) ++ c1.Text))) σ107)
              else (
                none))
            else (
              none))
          else (
            none))
        else (
          none))
      else
      bif (c1.Kind == 17) then (
        alloc σ [.int .u8 (IntKind.u8.wrap c1.N)] fun b110 σ111 =>
        (Heap.read σ111 (some b110) 0 1 1).bind fun cs112 =>
        (bytesOf cs112).bind fun bs113 =>
        if (⟨#[32]⟩ : ByteArray).size + (⟨bs113.toArray⟩ : ByteArray).size ≤ 9223372036854775807 then (
          if x2.size + ((⟨#[32]⟩ : ByteArray) ++ (⟨bs113.toArray⟩ : ByteArray)).size ≤ 9223372036854775807 then (
            K (.str (x2 ++ ((⟨#[32]⟩ : ByteArray) ++ (⟨bs113.toArray⟩ : ByteArray)))) σ111)
          else (
            none))
        else (
          none))
      else K (.str x2) σ)
    else none := by kernel_rfl
/-! law21_CommandAny -/
set_option maxRecDepth 100000 in
theorem law21_CommandAny_eq {R : Type} (w : C_law21_CommandAny) (L : Nat) (s1 : ByteArray) (σ : Heap) (K : AVal → Heap → Option R) :
    callC T (O_law21_CommandAny w) L 2 5 [.str s1] σ K =
    (w.law21_fit σ).bind fun q2 =>
    bif (!q2.1) then (
      K (.bool false) q2.2)
    else
    bif (decide ((s1.size : Int) > 300)) then (
      K (.bool true) q2.2)
    else
    (w.command_Parse s1 q2.2).bind fun q3 =>
    bif (q3.1.2 != 0) then (
      bif (q3.1.2 == 1) then (
        K (.bool (((q3.1.1.Kind : Int) == 0) && (((q3.1.1.N : Int) == 0) && (((q3.1.1.M : Int) == 0) && ((q3.1.1.Text.toList == (⟨#[]⟩ : ByteArray).toList) && true))))) q3.2)
      else
      bif (q3.1.2 == 2) then (
        K (.bool (((q3.1.1.Kind : Int) == 0) && (((q3.1.1.N : Int) == 0) && (((q3.1.1.M : Int) == 0) && ((q3.1.1.Text.toList == (⟨#[]⟩ : ByteArray).toList) && true))))) q3.2)
      else
      K (.bool false) q3.2)
    else
    (w.command_Print q3.1.1 q3.2).bind fun q4 =>
    K (.bool (q4.1.toList == s1.toList)) q4.2 := by kernel_rfl
end Go.Abs.TD
