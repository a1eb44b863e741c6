/-
Lifted functions: what the machine does, one equation for each entry and each loop (printed by lift.py).
-/
import Derived.Test.YtlfndndmegjnlaaDoorSigD
namespace Go.Abs.TD
open Go Go.Abs Go.Proofs
/-! command_number -/
set_option maxRecDepth 100000 in
theorem command_number_eq {R : Type} (w : C_command_number) (L : Nat) (s1 : ByteArray) (σ : Heap) (K : AVal → Heap → Option R) :
    callC T (O_command_number w) L 2 26 [.str s1] σ K =
    (w.strconv_Atoi s1 σ).bind fun q2 =>
    bif q2.1.2.nil then (
      bif (decide (q2.1.1 ≥ 0)) then (
        (w.strconv_Itoa q2.1.1 q2.2).bind fun q3 =>
        K (.tuple [.int .i64 q2.1.1, .bool (q3.1.toList == s1.toList)]) q3.2)
      else K (.tuple [.int .i64 q2.1.1, .bool false]) q2.2)
    else K (.tuple [.int .i64 q2.1.1, .bool false]) q2.2 := by kernel_rfl
/-! command_pair -/
set_option maxRecDepth 100000 in
theorem command_pair_eq {R : Type} (w : C_command_pair) (L : Nat) (s1 : ByteArray) (σ : Heap) (K : AVal → Heap → Option R) :
    callC T (O_command_pair w) L 2 27 [.str s1] σ K =
    (w.strings_Cut s1 (⟨#[47]⟩ : ByteArray) σ).bind fun q2 =>
    (w.command_number q2.1.1 q2.2).bind fun q3 =>
    (w.command_number q2.1.2.1 q3.2).bind fun q4 =>
    bif q2.1.2.2 then (
      bif q3.1.2 then (
        K (.tuple [.int .i64 q3.1.1, .int .i64 q4.1.1, .bool q4.1.2]) q4.2)
      else
      K (.tuple [.int .i64 q3.1.1, .int .i64 q4.1.1, .bool false]) q4.2)
    else K (.tuple [.int .i64 q3.1.1, .int .i64 q4.1.1, .bool false]) q4.2 := by kernel_rfl
/-! command_key -/
set_option maxRecDepth 100000 in
theorem command_key_eq {R : Type} (L : Nat) (s1 : ByteArray) (σ : Heap) (K : AVal → Heap → Option R) :
    callC T known0 L 2 29 [.str s1] σ K =
    bif ((s1.size : Int) == 1) then (
      bif (decide (0 < (s1.size : Int))) then (
        bif (decide (((s1.data.toList.getD 0 0).toNat : Int) > 32)) then (
          bif (decide (0 < (s1.size : Int))) then (
            K (.bool (decide (((s1.data.toList.getD 0 0).toNat : Int) < 127))) σ)
          else
          none)
        else K (.bool false) σ)
      else none)
    else K (.bool false) σ := by kernel_rfl
/-! command_Command_bound -/
set_option maxRecDepth 100000 in
theorem command_Command_bound_eq {R : Type} (w : C_command_Command_bound) (L : Nat) (c1 : Pt) (rest2 : ByteArray) (σ : Heap) (K : AVal → Heap → Option R) :
    callC T (O_command_Command_bound w) L 2 28 [.ptr c1, .str rest2] σ K =
    (w.strings_Cut rest2 (⟨#[32]⟩ : ByteArray) σ).bind fun q3 =>
    (w.command_key q3.1.1 q3.2).bind fun q4 =>
    bif (!q4.1) then (
      K (.int .i64 1) q4.2)
    else
    bif (!q3.1.2.2) then (
      K (.int .i64 1) q4.2)
    else
    bif (decide ((q3.1.2.1.size : Int) > 40)) then (
      K (.int .i64 2) q4.2)
    else
    (w.command_Parse q3.1.2.1 q4.2).bind fun q5 =>
    bif (q5.1.2 != 0) then (
      K (.int .i64 1) q5.2)
    else
    bif (decide (q5.1.1.Kind ≥ 16)) then (
      K (.int .i64 1) q5.2)
    else
    bif (decide (0 < (q3.1.1.size : Int))) then (
      (c1).bind fun q6 =>
      (Heap.store q5.2 q6.1 (q6.2 + 1) [.int .i64 (IntKind.i64.wrap ((q3.1.1.data.toList.getD 0 0).toNat : Int))]).bind fun σ7 =>
      (c1).bind fun q8 =>
      (Heap.store σ7 q8.1 (q8.2 + 3) [.str q3.1.2.1]).bind fun σ9 =>
      K (.int .i64 0) σ9)
    else none := by kernel_rfl
/-! command_Command_fill -/
noncomputable def command_Command_fill_J22 {R : Type} (w : C_command_Command_fill) (L : Nat) (ok_1 : Bool) (σ : Heap) (K : AVal → Heap → Option R) : Option R :=
  codeAt T (O_command_Command_fill w) L 1 19 Tryd.f19 [1, 1, 1] []
    (List.replicate 7 .undef ++ [.bool ok_1] ++ List.replicate 62 .undef)
    (List.replicate 70 .none) σ K
set_option maxRecDepth 100000 in
theorem command_Command_fill_J22_eq {R : Type} (w : C_command_Command_fill) (L : Nat) (ok_1 : Bool) (σ : Heap) (K : AVal → Heap → Option R) :
    command_Command_fill_J22 w L ok_1 σ K =
    bif (!ok_1) then (
      K (.int .i64 1) σ)
    else
    K (.int .i64 0) σ := by kernel_rfl
set_option maxRecDepth 100000 in
theorem command_Command_fill_eq0 {R : Type} (w : C_command_Command_fill) (L : Nat) (c1 : Pt) (rest2 : ByteArray) (more3 : Bool) (σ : Heap) (K : AVal → Heap → Option R) :
    callC T (O_command_Command_fill w) L 2 19 [.ptr c1, .str rest2, .bool more3] σ K =
    (c1).bind fun q4 =>
    (int? (Heap.cell? σ q4.1 q4.2) .i64).bind fun x5 =>
    bif (x5 == 3) then (
      bif (x5 == 3) then (
        (w.command_number rest2 σ).bind fun q6 =>
        (c1).bind fun q7 =>
        (Heap.store q6.2 q7.1 (q7.2 + 1) [.int .i64 q6.1.1]).bind fun σ8 =>
        joinC (T.join 19 22) σ8 (command_Command_fill_J22 w L q6.1.2 σ8 K))
      else
      bif (x5 == 7) then (
        bif (x5 == 7) then (
          (w.command_pair rest2 σ).bind fun q9 =>
          (c1).bind fun q10 =>
          (Heap.store q9.2 q10.1 (q10.2 + 1) [.int .i64 q9.1.1]).bind fun σ11 =>
          (c1).bind fun q12 =>
          (Heap.store σ11 q12.1 (q12.2 + 2) [.int .i64 q9.1.2.1]).bind fun σ13 =>
          joinC (T.join 19 22) σ13 (command_Command_fill_J22 w L q9.1.2.2 σ13 K))
        else
        bif (x5 == 4) then (
          bif (x5 == 4) then (
            bif (decide ((rest2.size : Int) > 40)) then (
              K (.int .i64 2) σ)
            else
            (c1).bind fun q14 =>
            (Heap.store σ q14.1 (q14.2 + 3) [.str rest2]).bind fun σ15 =>
            joinC (T.join 19 22) σ15 (command_Command_fill_J22 w L more3 σ15 K))
          else
          bif (x5 == 16) then (
            (w.command_Command_bound c1 rest2 σ).bind fun q16 =>
            K (.int .i64 q16.1) q16.2)
          else
          bif (x5 == 17) then (
            (w.command_key rest2 σ).bind fun q17 =>
            bif q17.1 then (
              bif (decide (0 < (rest2.size : Int))) then (
                (c1).bind fun q18 =>
                (Heap.store q17.2 q18.1 (q18.2 + 1) [.int .i64 (IntKind.i64.wrap ((rest2.data.toList.getD 0 0).toNat : Int))]).bind fun σ19 =>
                joinC (T.join 19 22) σ19 (command_Command_fill_J22 w L q17.1 σ19 K))
              else none)
            else joinC (T.join 19 22) q17.2 (command_Command_fill_J22 w L q17.1 q17.2 K))
          else joinC (T.join 19 22) σ (command_Command_fill_J22 w L (!more3) σ K))
        else
        bif (x5 == 6) then (
          bif (decide ((rest2.size : Int) > 40)) then (
            K (.int .i64 2) σ)
          else
          (c1).bind fun q20 =>
          (Heap.store σ q20.1 (q20.2 + 3) [.str rest2]).bind fun σ21 =>
          joinC (T.join 19 22) σ21 (command_Command_fill_J22 w L more3 σ21 K))
        else
        bif (x5 == 16) then (
          (w.command_Command_bound c1 rest2 σ).bind fun q22 =>
          K (.int .i64 q22.1) q22.2)
        else
        bif (x5 == 17) then (
          (w.command_key rest2 σ).bind fun q23 =>
          bif q23.1 then (
            bif (decide (0 < (rest2.size : Int))) then (
              (c1).bind fun q24 =>
              (Heap.store q23.2 q24.1 (q24.2 + 1) [.int .i64 (IntKind.i64.wrap ((rest2.data.toList.getD 0 0).toNat : Int))]).bind fun σ25 =>
              joinC (T.join 19 22) σ25 (command_Command_fill_J22 w L q23.1 σ25 K))
            else none)
          else joinC (T.join 19 22) q23.2 (command_Command_fill_J22 w L q23.1 q23.2 K))
        else joinC (T.join 19 22) σ (command_Command_fill_J22 w L (!more3) σ K))
      else
      bif (x5 == 13) then (
        (w.command_pair rest2 σ).bind fun q26 =>
        (c1).bind fun q27 =>
        (Heap.store q26.2 q27.1 (q27.2 + 1) [.int .i64 q26.1.1]).bind fun σ28 =>
        (c1).bind fun q29 =>
        (Heap.store σ28 q29.1 (q29.2 + 2) [.int .i64 q26.1.2.1]).bind fun σ30 =>
        joinC (T.join 19 22) σ30 (command_Command_fill_J22 w L q26.1.2.2 σ30 K))
      else
      bif (x5 == 4) then (
        bif (x5 == 4) then (
          bif (decide ((rest2.size : Int) > 40)) then (
            K (.int .i64 2) σ)
          else
          (c1).bind fun q31 =>
          (Heap.store σ q31.1 (q31.2 + 3) [.str rest2]).bind fun σ32 =>
          joinC (T.join 19 22) σ32 (command_Command_fill_J22 w L more3 σ32 K))
        else
        bif (x5 == 16) then (
          (w.command_Command_bound c1 rest2 σ).bind fun q33 =>
          K (.int .i64 q33.1) q33.2)
        else
        bif (x5 == 17) then (
          (w.command_key rest2 σ).bind fun q34 =>
          bif q34.1 then (
            bif (decide (0 < (rest2.size : Int))) then (
              (c1).bind fun q35 =>
              (Heap.store q34.2 q35.1 (q35.2 + 1) [.int .i64 (IntKind.i64.wrap ((rest2.data.toList.getD 0 0).toNat : Int))]).bind fun σ36 =>
              joinC (T.join 19 22) σ36 (command_Command_fill_J22 w L q34.1 σ36 K))
            else none)
          else joinC (T.join 19 22) q34.2 (command_Command_fill_J22 w L q34.1 q34.2 K))
        else joinC (T.join 19 22) σ (command_Command_fill_J22 w L (!more3) σ K))
      else
      bif (x5 == 6) then (
        bif (decide ((rest2.size : Int) > 40)) then (
          K (.int .i64 2) σ)
        else
        (c1).bind fun q37 =>
        (Heap.store σ q37.1 (q37.2 + 3) [.str rest2]).bind fun σ38 =>
        joinC (T.join 19 22) σ38 (command_Command_fill_J22 w L more3 σ38 K))
      else
      bif (x5 == 16) then (
        (w.command_Command_bound c1 rest2 σ).bind fun q39 =>
        K (.int .i64 q39.1) q39.2)
      else
      bif (x5 == 17) then (
        (w.command_key rest2 σ).bind fun q40 =>
        bif q40.1 then (
          bif (decide (0 < (rest2.size : Int))) then (
            (c1).bind fun q41 =>
            (Heap.store q40.2 q41.1 (q41.2 + 1) [.int .i64 (IntKind.i64.wrap ((rest2.data.toList.getD 0 0).toNat : Int))]).bind fun σ42 =>
            joinC (T.join 19 22) σ42 (command_Command_fill_J22 w L q40.1 σ42 K))
          else none)
        else joinC (T.join 19 22) q40.2 (command_Command_fill_J22 w L q40.1 q40.2 K))
      else joinC (T.join 19 22) σ (command_Command_fill_J22 w L (!more3) σ K))
    else
    bif (x5 == 5) then (
      bif (x5 == 5) then (
        (w.command_number rest2 σ).bind fun q43 =>
        (c1).bind fun q44 =>
        (Heap.store q43.2 q44.1 (q44.2 + 1) [.int .i64 q43.1.1]).bind fun σ45 =>
        joinC (T.join 19 22) σ45 (command_Command_fill_J22 w L q43.1.2 σ45 K))
      else
      bif (x5 == 7) then (
        bif (x5 == 7) then (
          (w.command_pair rest2 σ).bind fun q46 =>
          (c1).bind fun q47 =>
          (Heap.store q46.2 q47.1 (q47.2 + 1) [.int .i64 q46.1.1]).bind fun σ48 =>
          (c1).bind fun q49 =>
          (Heap.store σ48 q49.1 (q49.2 + 2) [.int .i64 q46.1.2.1]).bind fun σ50 =>
          joinC (T.join 19 22) σ50 (command_Command_fill_J22 w L q46.1.2.2 σ50 K))
        else
        bif (x5 == 4) then (
          bif (x5 == 4) then (
            bif (decide ((rest2.size : Int) > 40)) then (
              K (.int .i64 2) σ)
            else
            (c1).bind fun q51 =>
            (Heap.store σ q51.1 (q51.2 + 3) [.str rest2]).bind fun σ52 =>
            joinC (T.join 19 22) σ52 (command_Command_fill_J22 w L more3 σ52 K))
          else
          bif (x5 == 16) then (
            (w.command_Command_bound c1 rest2 σ).bind fun q53 =>
            K (.int .i64 q53.1) q53.2)
          else
          bif (x5 == 17) then (
            (w.command_key rest2 σ).bind fun q54 =>
            bif q54.1 then (
              bif (decide (0 < (rest2.size : Int))) then (
                (c1).bind fun q55 =>
                (Heap.store q54.2 q55.1 (q55.2 + 1) [.int .i64 (IntKind.i64.wrap ((rest2.data.toList.getD 0 0).toNat : Int))]).bind fun σ56 =>
                joinC (T.join 19 22) σ56 (command_Command_fill_J22 w L q54.1 σ56 K))
              else none)
            else joinC (T.join 19 22) q54.2 (command_Command_fill_J22 w L q54.1 q54.2 K))
          else joinC (T.join 19 22) σ (command_Command_fill_J22 w L (!more3) σ K))
        else
        bif (x5 == 6) then (
          bif (decide ((rest2.size : Int) > 40)) then (
            K (.int .i64 2) σ)
          else
          (c1).bind fun q57 =>
          (Heap.store σ q57.1 (q57.2 + 3) [.str rest2]).bind fun σ58 =>
          joinC (T.join 19 22) σ58 (command_Command_fill_J22 w L more3 σ58 K))
        else
        bif (x5 == 16) then (
          (w.command_Command_bound c1 rest2 σ).bind fun q59 =>
          K (.int .i64 q59.1) q59.2)
        else
        bif (x5 == 17) then (
          (w.command_key rest2 σ).bind fun q60 =>
          bif q60.1 then (
            bif (decide (0 < (rest2.size : Int))) then (
              (c1).bind fun q61 =>
              (Heap.store q60.2 q61.1 (q61.2 + 1) [.int .i64 (IntKind.i64.wrap ((rest2.data.toList.getD 0 0).toNat : Int))]).bind fun σ62 =>
              joinC (T.join 19 22) σ62 (command_Command_fill_J22 w L q60.1 σ62 K))
            else none)
          else joinC (T.join 19 22) q60.2 (command_Command_fill_J22 w L q60.1 q60.2 K))
        else joinC (T.join 19 22) σ (command_Command_fill_J22 w L (!more3) σ K))
      else
      bif (x5 == 13) then (
        (w.command_pair rest2 σ).bind fun q63 =>
        (c1).bind fun q64 =>
        (Heap.store q63.2 q64.1 (q64.2 + 1) [.int .i64 q63.1.1]).bind fun σ65 =>
        (c1).bind fun q66 =>
        (Heap.store σ65 q66.1 (q66.2 + 2) [.int .i64 q63.1.2.1]).bind fun σ67 =>
        joinC (T.join 19 22) σ67 (command_Command_fill_J22 w L q63.1.2.2 σ67 K))
      else
      bif (x5 == 4) then (
        bif (x5 == 4) then (
          bif (decide ((rest2.size : Int) > 40)) then (
            K (.int .i64 2) σ)
          else
          (c1).bind fun q68 =>
          (Heap.store σ q68.1 (q68.2 + 3) [.str rest2]).bind fun σ69 =>
          joinC (T.join 19 22) σ69 (command_Command_fill_J22 w L more3 σ69 K))
        else
        bif (x5 == 16) then (
          (w.command_Command_bound c1 rest2 σ).bind fun q70 =>
          K (.int .i64 q70.1) q70.2)
        else
        bif (x5 == 17) then (
          (w.command_key rest2 σ).bind fun q71 =>
          bif q71.1 then (
            bif (decide (0 < (rest2.size : Int))) then (
              (c1).bind fun q72 =>
              (Heap.store q71.2 q72.1 (q72.2 + 1) [.int .i64 (IntKind.i64.wrap ((rest2.data.toList.getD 0 0).toNat : Int))]).bind fun σ73 =>
              joinC (T.join 19 22) σ73 (command_Command_fill_J22 w L q71.1 σ73 K))
            else none)
          else joinC (T.join 19 22) q71.2 (command_Command_fill_J22 w L q71.1 q71.2 K))
        else joinC (T.join 19 22) σ (command_Command_fill_J22 w L (!more3) σ K))
      else
      bif (x5 == 6) then (
        bif (decide ((rest2.size : Int) > 40)) then (
          K (.int .i64 2) σ)
        else
        (c1).bind fun q74 =>
        (Heap.store σ q74.1 (q74.2 + 3) [.str rest2]).bind fun σ75 =>
        joinC (T.join 19 22) σ75 (command_Command_fill_J22 w L more3 σ75 K))
      else
      bif (x5 == 16) then (
        (w.command_Command_bound c1 rest2 σ).bind fun q76 =>
        K (.int .i64 q76.1) q76.2)
      else
      bif (x5 == 17) then (
        (w.command_key rest2 σ).bind fun q77 =>
        bif q77.1 then (
          bif (decide (0 < (rest2.size : Int))) then (
            (c1).bind fun q78 =>
            (Heap.store q77.2 q78.1 (q78.2 + 1) [.int .i64 (IntKind.i64.wrap ((rest2.data.toList.getD 0 0).toNat : Int))]).bind fun σ79 =>
            joinC (T.join 19 22) σ79 (command_Command_fill_J22 w L q77.1 σ79 K))
          else none)
        else joinC (T.join 19 22) q77.2 (command_Command_fill_J22 w L q77.1 q77.2 K))
      else joinC (T.join 19 22) σ (command_Command_fill_J22 w L (!more3) σ K))
    else
    bif (x5 == 14) then (
      (w.command_number rest2 σ).bind fun q80 =>
      (c1).bind fun q81 =>
      (Heap.store q80.2 q81.1 (q81.2 + 1) [.int .i64 q80.1.1]).bind fun σ82 =>
      joinC (T.join 19 22) σ82 (command_Command_fill_J22 w L q80.1.2 σ82 K))
    else
    bif (x5 == 7) then (
      bif (x5 == 7) then (
        (w.command_pair rest2 σ).bind fun q83 =>
        (c1).bind fun q84 =>
        (Heap.store q83.2 q84.1 (q84.2 + 1) [.int .i64 q83.1.1]).bind fun σ85 =>
        (c1).bind fun q86 =>
        (Heap.store σ85 q86.1 (q86.2 + 2) [.int .i64 q83.1.2.1]).bind fun σ87 =>
        joinC (T.join 19 22) σ87 (command_Command_fill_J22 w L q83.1.2.2 σ87 K))
      else
      bif (x5 == 4) then (
        bif (x5 == 4) then (
          bif (decide ((rest2.size : Int) > 40)) then (
            K (.int .i64 2) σ)
          else
          (c1).bind fun q88 =>
          (Heap.store σ q88.1 (q88.2 + 3) [.str rest2]).bind fun σ89 =>
          joinC (T.join 19 22) σ89 (command_Command_fill_J22 w L more3 σ89 K))
        else
        bif (x5 == 16) then (
          (w.command_Command_bound c1 rest2 σ).bind fun q90 =>
          K (.int .i64 q90.1) q90.2)
        else
        bif (x5 == 17) then (
          (w.command_key rest2 σ).bind fun q91 =>
          bif q91.1 then (
            bif (decide (0 < (rest2.size : Int))) then (
              (c1).bind fun q92 =>
              (Heap.store q91.2 q92.1 (q92.2 + 1) [.int .i64 (IntKind.i64.wrap ((rest2.data.toList.getD 0 0).toNat : Int))]).bind fun σ93 =>
              joinC (T.join 19 22) σ93 (command_Command_fill_J22 w L q91.1 σ93 K))
            else none)
          else joinC (T.join 19 22) q91.2 (command_Command_fill_J22 w L q91.1 q91.2 K))
        else joinC (T.join 19 22) σ (command_Command_fill_J22 w L (!more3) σ K))
      else
      bif (x5 == 6) then (
        bif (decide ((rest2.size : Int) > 40)) then (
          K (.int .i64 2) σ)
        else
        (c1).bind fun q94 =>
        (Heap.store σ q94.1 (q94.2 + 3) [.str rest2]).bind fun σ95 =>
        joinC (T.join 19 22) σ95 (command_Command_fill_J22 w L more3 σ95 K))
      else
      bif (x5 == 16) then (
        (w.command_Command_bound c1 rest2 σ).bind fun q96 =>
        K (.int .i64 q96.1) q96.2)
      else
      bif (x5 == 17) then (
        (w.command_key rest2 σ).bind fun q97 =>
        bif q97.1 then (
          bif (decide (0 < (rest2.size : Int))) then (
            (c1).bind fun q98 =>
            (Heap.store q97.2 q98.1 (q98.2 + 1) [.int .i64 (IntKind.i64.wrap ((rest2.data.toList.getD 0 0).toNat : Int))]).bind fun σ99 =>
            joinC (T.join 19 22) σ99 (command_Command_fill_J22 w L q97.1 σ99 K))
          else none)
        else joinC (T.join 19 22) q97.2 (command_Command_fill_J22 w L q97.1 q97.2 K))
      else joinC (T.join 19 22) σ (command_Command_fill_J22 w L (!more3) σ K))
    else
    bif (x5 == 13) then (
      (w.command_pair rest2 σ).bind fun q100 =>
      (c1).bind fun q101 =>
      (Heap.store q100.2 q101.1 (q101.2 + 1) [.int .i64 q100.1.1]).bind fun σ102 =>
      (c1).bind fun q103 =>
      (Heap.store σ102 q103.1 (q103.2 + 2) [.int .i64 q100.1.2.1]).bind fun σ104 =>
      joinC (T.join 19 22) σ104 (command_Command_fill_J22 w L q100.1.2.2 σ104 K))
    else
    bif (x5 == 4) then (
      bif (x5 == 4) then (
        bif (decide ((rest2.size : Int) > 40)) then (
          K (.int .i64 2) σ)
        else
        (c1).bind fun q105 =>
        (Heap.store σ q105.1 (q105.2 + 3) [.str rest2]).bind fun σ106 =>
        joinC (T.join 19 22) σ106 (command_Command_fill_J22 w L more3 σ106 K))
      else
      bif (x5 == 16) then (
        (w.command_Command_bound c1 rest2 σ).bind fun q107 =>
        K (.int .i64 q107.1) q107.2)
      else
      bif (x5 == 17) then (
        (w.command_key rest2 σ).bind fun q108 =>
        bif q108.1 then (
          bif (decide (0 < (rest2.size : Int))) then (
            (c1).bind fun q109 =>
            (Heap.store q108.2 q109.1 (q109.2 + 1) [.int .i64 (IntKind.i64.wrap ((rest2.data.toList.getD 0 0).toNat : Int))]).bind fun σ110 =>
            joinC (T.join 19 22) σ110 (command_Command_fill_J22 w L q108.1 σ110 K))
          else none)
        else joinC (T.join 19 22) q108.2 (command_Command_fill_J22 w L q108.1 q108.2 K))
      else joinC (T.join 19 22) σ (command_Command_fill_J22 w L (!more3) σ K))
    else
    bif (x5 == 6) then (
      bif (decide ((rest2.size : Int) > 40)) then (
        K (.int .i64 2) σ)
      else
      (c1).bind fun q111 =>
      (Heap.store σ q111.1 (q111.2 + 3) [.str rest2]).bind fun σ112 =>
      joinC (T.join 19 22) σ112 (command_Command_fill_J22 w L more3 σ112 K))
    else
    bif (x5 == 16) then (
      (w.command_Command_bound c1 rest2 σ).bind fun q113 =>
      K (.int .i64 q113.1) q113.2)
    else
    bif (x5 == 17) then (
      (w.command_key rest2 σ).bind fun q114 =>
      bif q114.1 then (
        bif (decide (0 < (rest2.size : Int))) then (
          (c1).bind fun q115 =>
          (Heap.store q114.2 q115.1 (q115.2 + 1) [.int .i64 (IntKind.i64.wrap ((rest2.data.toList.getD 0 0).toNat : Int))]).bind fun σ116 =>
          joinC (T.join 19 22) σ116 (command_Command_fill_J22 w L q114.1 σ116 K))
        else none)
      else joinC (T.join 19 22) q114.2 (command_Command_fill_J22 w L q114.1 q114.2 K))
    else joinC (T.join 19 22) σ (command_Command_fill_J22 w L (!more3) σ K) := by kernel_rfl
theorem command_Command_fill_eq {R : Type} (w : C_command_Command_fill) (L : Nat) (c1 : Pt) (rest2 : ByteArray) (more3 : Bool) (σ : Heap) (K : AVal → Heap → Option R) :
    callC T (O_command_Command_fill w) L 2 19 [.ptr c1, .str rest2, .bool more3] σ K =
    (c1).bind fun q4 =>
    (int? (Heap.cell? σ q4.1 q4.2) .i64).bind fun x5 =>
    bif (x5 == 3) then (
      bif (x5 == 3) then (
        (w.command_number rest2 σ).bind fun q6 =>
        (c1).bind fun q7 =>
        (Heap.store q6.2 q7.1 (q7.2 + 1) [.int .i64 q6.1.1]).bind fun σ8 =>
        command_Command_fill_J22 w L q6.1.2 σ8 K)
      else
      bif (x5 == 7) then (
        bif (x5 == 7) then (
          (w.command_pair rest2 σ).bind fun q9 =>
          (c1).bind fun q10 =>
          (Heap.store q9.2 q10.1 (q10.2 + 1) [.int .i64 q9.1.1]).bind fun σ11 =>
          (c1).bind fun q12 =>
          (Heap.store σ11 q12.1 (q12.2 + 2) [.int .i64 q9.1.2.1]).bind fun σ13 =>
          command_Command_fill_J22 w L q9.1.2.2 σ13 K)
        else
        bif (x5 == 4) then (
          bif (x5 == 4) then (
            bif (decide ((rest2.size : Int) > 40)) then (
              K (.int .i64 2) σ)
            else
            (c1).bind fun q14 =>
            (Heap.store σ q14.1 (q14.2 + 3) [.str rest2]).bind fun σ15 =>
            command_Command_fill_J22 w L more3 σ15 K)
          else
          bif (x5 == 16) then (
            (w.command_Command_bound c1 rest2 σ).bind fun q16 =>
            K (.int .i64 q16.1) q16.2)
          else
          bif (x5 == 17) then (
            (w.command_key rest2 σ).bind fun q17 =>
            bif q17.1 then (
              bif (decide (0 < (rest2.size : Int))) then (
                (c1).bind fun q18 =>
                (Heap.store q17.2 q18.1 (q18.2 + 1) [.int .i64 (IntKind.i64.wrap ((rest2.data.toList.getD 0 0).toNat : Int))]).bind fun σ19 =>
                command_Command_fill_J22 w L q17.1 σ19 K)
              else none)
            else command_Command_fill_J22 w L q17.1 q17.2 K)
          else command_Command_fill_J22 w L (!more3) σ K)
        else
        bif (x5 == 6) then (
          bif (decide ((rest2.size : Int) > 40)) then (
            K (.int .i64 2) σ)
          else
          (c1).bind fun q20 =>
          (Heap.store σ q20.1 (q20.2 + 3) [.str rest2]).bind fun σ21 =>
          command_Command_fill_J22 w L more3 σ21 K)
        else
        bif (x5 == 16) then (
          (w.command_Command_bound c1 rest2 σ).bind fun q22 =>
          K (.int .i64 q22.1) q22.2)
        else
        bif (x5 == 17) then (
          (w.command_key rest2 σ).bind fun q23 =>
          bif q23.1 then (
            bif (decide (0 < (rest2.size : Int))) then (
              (c1).bind fun q24 =>
              (Heap.store q23.2 q24.1 (q24.2 + 1) [.int .i64 (IntKind.i64.wrap ((rest2.data.toList.getD 0 0).toNat : Int))]).bind fun σ25 =>
              command_Command_fill_J22 w L q23.1 σ25 K)
            else none)
          else command_Command_fill_J22 w L q23.1 q23.2 K)
        else command_Command_fill_J22 w L (!more3) σ K)
      else
      bif (x5 == 13) then (
        (w.command_pair rest2 σ).bind fun q26 =>
        (c1).bind fun q27 =>
        (Heap.store q26.2 q27.1 (q27.2 + 1) [.int .i64 q26.1.1]).bind fun σ28 =>
        (c1).bind fun q29 =>
        (Heap.store σ28 q29.1 (q29.2 + 2) [.int .i64 q26.1.2.1]).bind fun σ30 =>
        command_Command_fill_J22 w L q26.1.2.2 σ30 K)
      else
      bif (x5 == 4) then (
        bif (x5 == 4) then (
          bif (decide ((rest2.size : Int) > 40)) then (
            K (.int .i64 2) σ)
          else
          (c1).bind fun q31 =>
          (Heap.store σ q31.1 (q31.2 + 3) [.str rest2]).bind fun σ32 =>
          command_Command_fill_J22 w L more3 σ32 K)
        else
        bif (x5 == 16) then (
          (w.command_Command_bound c1 rest2 σ).bind fun q33 =>
          K (.int .i64 q33.1) q33.2)
        else
        bif (x5 == 17) then (
          (w.command_key rest2 σ).bind fun q34 =>
          bif q34.1 then (
            bif (decide (0 < (rest2.size : Int))) then (
              (c1).bind fun q35 =>
              (Heap.store q34.2 q35.1 (q35.2 + 1) [.int .i64 (IntKind.i64.wrap ((rest2.data.toList.getD 0 0).toNat : Int))]).bind fun σ36 =>
              command_Command_fill_J22 w L q34.1 σ36 K)
            else none)
          else command_Command_fill_J22 w L q34.1 q34.2 K)
        else command_Command_fill_J22 w L (!more3) σ K)
      else
      bif (x5 == 6) then (
        bif (decide ((rest2.size : Int) > 40)) then (
          K (.int .i64 2) σ)
        else
        (c1).bind fun q37 =>
        (Heap.store σ q37.1 (q37.2 + 3) [.str rest2]).bind fun σ38 =>
        command_Command_fill_J22 w L more3 σ38 K)
      else
      bif (x5 == 16) then (
        (w.command_Command_bound c1 rest2 σ).bind fun q39 =>
        K (.int .i64 q39.1) q39.2)
      else
      bif (x5 == 17) then (
        (w.command_key rest2 σ).bind fun q40 =>
        bif q40.1 then (
          bif (decide (0 < (rest2.size : Int))) then (
            (c1).bind fun q41 =>
            (Heap.store q40.2 q41.1 (q41.2 + 1) [.int .i64 (IntKind.i64.wrap ((rest2.data.toList.getD 0 0).toNat : Int))]).bind fun σ42 =>
            command_Command_fill_J22 w L q40.1 σ42 K)
          else none)
        else command_Command_fill_J22 w L q40.1 q40.2 K)
      else command_Command_fill_J22 w L (!more3) σ K)
    else
    bif (x5 == 5) then (
      bif (x5 == 5) then (
        (w.command_number rest2 σ).bind fun q43 =>
        (c1).bind fun q44 =>
        (Heap.store q43.2 q44.1 (q44.2 + 1) [.int .i64 q43.1.1]).bind fun σ45 =>
        command_Command_fill_J22 w L q43.1.2 σ45 K)
      else
      bif (x5 == 7) then (
        bif (x5 == 7) then (
          (w.command_pair rest2 σ).bind fun q46 =>
          (c1).bind fun q47 =>
          (Heap.store q46.2 q47.1 (q47.2 + 1) [.int .i64 q46.1.1]).bind fun σ48 =>
          (c1).bind fun q49 =>
          (Heap.store σ48 q49.1 (q49.2 + 2) [.int .i64 q46.1.2.1]).bind fun σ50 =>
          command_Command_fill_J22 w L q46.1.2.2 σ50 K)
        else
        bif (x5 == 4) then (
          bif (x5 == 4) then (
            bif (decide ((rest2.size : Int) > 40)) then (
              K (.int .i64 2) σ)
            else
            (c1).bind fun q51 =>
            (Heap.store σ q51.1 (q51.2 + 3) [.str rest2]).bind fun σ52 =>
            command_Command_fill_J22 w L more3 σ52 K)
          else
          bif (x5 == 16) then (
            (w.command_Command_bound c1 rest2 σ).bind fun q53 =>
            K (.int .i64 q53.1) q53.2)
          else
          bif (x5 == 17) then (
            (w.command_key rest2 σ).bind fun q54 =>
            bif q54.1 then (
              bif (decide (0 < (rest2.size : Int))) then (
                (c1).bind fun q55 =>
                (Heap.store q54.2 q55.1 (q55.2 + 1) [.int .i64 (IntKind.i64.wrap ((rest2.data.toList.getD 0 0).toNat : Int))]).bind fun σ56 =>
                command_Command_fill_J22 w L q54.1 σ56 K)
              else none)
            else command_Command_fill_J22 w L q54.1 q54.2 K)
          else command_Command_fill_J22 w L (!more3) σ K)
        else
        bif (x5 == 6) then (
          bif (decide ((rest2.size : Int) > 40)) then (
            K (.int .i64 2) σ)
          else
          (c1).bind fun q57 =>
          (Heap.store σ q57.1 (q57.2 + 3) [.str rest2]).bind fun σ58 =>
          command_Command_fill_J22 w L more3 σ58 K)
        else
        bif (x5 == 16) then (
          (w.command_Command_bound c1 rest2 σ).bind fun q59 =>
          K (.int .i64 q59.1) q59.2)
        else
        bif (x5 == 17) then (
          (w.command_key rest2 σ).bind fun q60 =>
          bif q60.1 then (
            bif (decide (0 < (rest2.size : Int))) then (
              (c1).bind fun q61 =>
              (Heap.store q60.2 q61.1 (q61.2 + 1) [.int .i64 (IntKind.i64.wrap ((rest2.data.toList.getD 0 0).toNat : Int))]).bind fun σ62 =>
              command_Command_fill_J22 w L q60.1 σ62 K)
            else none)
          else command_Command_fill_J22 w L q60.1 q60.2 K)
        else command_Command_fill_J22 w L (!more3) σ K)
      else
      bif (x5 == 13) then (
        (w.command_pair rest2 σ).bind fun q63 =>
        (c1).bind fun q64 =>
        (Heap.store q63.2 q64.1 (q64.2 + 1) [.int .i64 q63.1.1]).bind fun σ65 =>
        (c1).bind fun q66 =>
        (Heap.store σ65 q66.1 (q66.2 + 2) [.int .i64 q63.1.2.1]).bind fun σ67 =>
        command_Command_fill_J22 w L q63.1.2.2 σ67 K)
      else
      bif (x5 == 4) then (
        bif (x5 == 4) then (
          bif (decide ((rest2.size : Int) > 40)) then (
            K (.int .i64 2) σ)
          else
          (c1).bind fun q68 =>
          (Heap.store σ q68.1 (q68.2 + 3) [.str rest2]).bind fun σ69 =>
          command_Command_fill_J22 w L more3 σ69 K)
        else
        bif (x5 == 16) then (
          (w.command_Command_bound c1 rest2 σ).bind fun q70 =>
          K (.int .i64 q70.1) q70.2)
        else
        bif (x5 == 17) then (
          (w.command_key rest2 σ).bind fun q71 =>
          bif q71.1 then (
            bif (decide (0 < (rest2.size : Int))) then (
              (c1).bind fun q72 =>
              (Heap.store q71.2 q72.1 (q72.2 + 1) [.int .i64 (IntKind.i64.wrap ((rest2.data.toList.getD 0 0).toNat : Int))]).bind fun σ73 =>
              command_Command_fill_J22 w L q71.1 σ73 K)
            else none)
          else command_Command_fill_J22 w L q71.1 q71.2 K)
        else command_Command_fill_J22 w L (!more3) σ K)
      else
      bif (x5 == 6) then (
        bif (decide ((rest2.size : Int) > 40)) then (
          K (.int .i64 2) σ)
        else
        (c1).bind fun q74 =>
        (Heap.store σ q74.1 (q74.2 + 3) [.str rest2]).bind fun σ75 =>
        command_Command_fill_J22 w L more3 σ75 K)
      else
      bif (x5 == 16) then (
        (w.command_Command_bound c1 rest2 σ).bind fun q76 =>
        K (.int .i64 q76.1) q76.2)
      else
      bif (x5 == 17) then (
        (w.command_key rest2 σ).bind fun q77 =>
        bif q77.1 then (
          bif (decide (0 < (rest2.size : Int))) then (
            (c1).bind fun q78 =>
            (Heap.store q77.2 q78.1 (q78.2 + 1) [.int .i64 (IntKind.i64.wrap ((rest2.data.toList.getD 0 0).toNat : Int))]).bind fun σ79 =>
            command_Command_fill_J22 w L q77.1 σ79 K)
          else none)
        else command_Command_fill_J22 w L q77.1 q77.2 K)
      else command_Command_fill_J22 w L (!more3) σ K)
    else
    bif (x5 == 14) then (
      (w.command_number rest2 σ).bind fun q80 =>
      (c1).bind fun q81 =>
      (Heap.store q80.2 q81.1 (q81.2 + 1) [.int .i64 q80.1.1]).bind fun σ82 =>
      command_Command_fill_J22 w L q80.1.2 σ82 K)
    else
    bif (x5 == 7) then (
      bif (x5 == 7) then (
        (w.command_pair rest2 σ).bind fun q83 =>
        (c1).bind fun q84 =>
        (Heap.store q83.2 q84.1 (q84.2 + 1) [.int .i64 q83.1.1]).bind fun σ85 =>
        (c1).bind fun q86 =>
        (Heap.store σ85 q86.1 (q86.2 + 2) [.int .i64 q83.1.2.1]).bind fun σ87 =>
        command_Command_fill_J22 w L q83.1.2.2 σ87 K)
      else
      bif (x5 == 4) then (
        bif (x5 == 4) then (
          bif (decide ((rest2.size : Int) > 40)) then (
            K (.int .i64 2) σ)
          else
          (c1).bind fun q88 =>
          (Heap.store σ q88.1 (q88.2 + 3) [.str rest2]).bind fun σ89 =>
          command_Command_fill_J22 w L more3 σ89 K)
        else
        bif (x5 == 16) then (
          (w.command_Command_bound c1 rest2 σ).bind fun q90 =>
          K (.int .i64 q90.1) q90.2)
        else
        bif (x5 == 17) then (
          (w.command_key rest2 σ).bind fun q91 =>
          bif q91.1 then (
            bif (decide (0 < (rest2.size : Int))) then (
              (c1).bind fun q92 =>
              (Heap.store q91.2 q92.1 (q92.2 + 1) [.int .i64 (IntKind.i64.wrap ((rest2.data.toList.getD 0 0).toNat : Int))]).bind fun σ93 =>
              command_Command_fill_J22 w L q91.1 σ93 K)
            else none)
          else command_Command_fill_J22 w L q91.1 q91.2 K)
        else command_Command_fill_J22 w L (!more3) σ K)
      else
      bif (x5 == 6) then (
        bif (decide ((rest2.size : Int) > 40)) then (
          K (.int .i64 2) σ)
        else
        (c1).bind fun q94 =>
        (Heap.store σ q94.1 (q94.2 + 3) [.str rest2]).bind fun σ95 =>
        command_Command_fill_J22 w L more3 σ95 K)
      else
      bif (x5 == 16) then (
        (w.command_Command_bound c1 rest2 σ).bind fun q96 =>
        K (.int .i64 q96.1) q96.2)
      else
      bif (x5 == 17) then (
        (w.command_key rest2 σ).bind fun q97 =>
        bif q97.1 then (
          bif (decide (0 < (rest2.size : Int))) then (
            (c1).bind fun q98 =>
            (Heap.store q97.2 q98.1 (q98.2 + 1) [.int .i64 (IntKind.i64.wrap ((rest2.data.toList.getD 0 0).toNat : Int))]).bind fun σ99 =>
            command_Command_fill_J22 w L q97.1 σ99 K)
          else none)
        else command_Command_fill_J22 w L q97.1 q97.2 K)
      else command_Command_fill_J22 w L (!more3) σ K)
    else
    bif (x5 == 13) then (
      (w.command_pair rest2 σ).bind fun q100 =>
      (c1).bind fun q101 =>
      (Heap.store q100.2 q101.1 (q101.2 + 1) [.int .i64 q100.1.1]).bind fun σ102 =>
      (c1).bind fun q103 =>
      (Heap.store σ102 q103.1 (q103.2 + 2) [.int .i64 q100.1.2.1]).bind fun σ104 =>
      command_Command_fill_J22 w L q100.1.2.2 σ104 K)
    else
    bif (x5 == 4) then (
      bif (x5 == 4) then (
        bif (decide ((rest2.size : Int) > 40)) then (
          K (.int .i64 2) σ)
        else
        (c1).bind fun q105 =>
        (Heap.store σ q105.1 (q105.2 + 3) [.str rest2]).bind fun σ106 =>
        command_Command_fill_J22 w L more3 σ106 K)
      else
      bif (x5 == 16) then (
        (w.command_Command_bound c1 rest2 σ).bind fun q107 =>
        K (.int .i64 q107.1) q107.2)
      else
      bif (x5 == 17) then (
        (w.command_key rest2 σ).bind fun q108 =>
        bif q108.1 then (
          bif (decide (0 < (rest2.size : Int))) then (
            (c1).bind fun q109 =>
            (Heap.store q108.2 q109.1 (q109.2 + 1) [.int .i64 (IntKind.i64.wrap ((rest2.data.toList.getD 0 0).toNat : Int))]).bind fun σ110 =>
            command_Command_fill_J22 w L q108.1 σ110 K)
          else none)
        else command_Command_fill_J22 w L q108.1 q108.2 K)
      else command_Command_fill_J22 w L (!more3) σ K)
    else
    bif (x5 == 6) then (
      bif (decide ((rest2.size : Int) > 40)) then (
        K (.int .i64 2) σ)
      else
      (c1).bind fun q111 =>
      (Heap.store σ q111.1 (q111.2 + 3) [.str rest2]).bind fun σ112 =>
      command_Command_fill_J22 w L more3 σ112 K)
    else
    bif (x5 == 16) then (
      (w.command_Command_bound c1 rest2 σ).bind fun q113 =>
      K (.int .i64 q113.1) q113.2)
    else
    bif (x5 == 17) then (
      (w.command_key rest2 σ).bind fun q114 =>
      bif q114.1 then (
        bif (decide (0 < (rest2.size : Int))) then (
          (c1).bind fun q115 =>
          (Heap.store q114.2 q115.1 (q115.2 + 1) [.int .i64 (IntKind.i64.wrap ((rest2.data.toList.getD 0 0).toNat : Int))]).bind fun σ116 =>
          command_Command_fill_J22 w L q114.1 σ116 K)
        else none)
      else command_Command_fill_J22 w L q114.1 q114.2 K)
    else command_Command_fill_J22 w L (!more3) σ K := by 
  rw [command_Command_fill_eq0]; simp only [joinC_eq]
end Go.Abs.TD
