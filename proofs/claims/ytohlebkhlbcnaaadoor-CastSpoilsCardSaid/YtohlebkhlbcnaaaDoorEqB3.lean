/-
Lifted functions: what the machine does, one equation for each entry and each loop (printed by lift.py).
-/
import Derived.Test.YtohlebkhlbcnaaaDoorSigB
namespace Go.Abs.TB
open Go Go.Abs Go.Proofs
/-! unicode_utf8_ValidString -/
noncomputable def unicode_utf8_ValidString_L1 {R : Type} (w : C_unicode_utf8_ValidString) (L fu0 : Nat) (s_1 : ByteArray) (σ : Heap) (K : AVal → Heap → Option R) : Option R :=
  loopAt T (O_unicode_utf8_ValidString w) L 1 33 Tryd.f33 [1, 0, 0] [] fu0
    ([.str s_1] ++ List.replicate 168 .undef)
    (List.replicate 169 .none) σ K
noncomputable def unicode_utf8_ValidString_L9 {R : Type} (w : C_unicode_utf8_ValidString) (L fu0 fu1 : Nat) (s_2 : ByteArray) (σ : Heap) (K : AVal → Heap → Option R) : Option R :=
  loopAt T (O_unicode_utf8_ValidString w) L 1 33 Tryd.f33 [1, 0, 0, 0, 1, 0, 1, 0, 1, 0, 1, 0, 1, 0, 1, 1, 0, 1, 0] [fu0] fu1
    ([.str s_2] ++ List.replicate 168 .undef)
    (List.replicate 169 .none) σ K
set_option maxRecDepth 100000 in
theorem unicode_utf8_ValidString_L1_eq {R : Type} (w : C_unicode_utf8_ValidString) (L fu0 : Nat) (s_1 : ByteArray) (σ : Heap) (K : AVal → Heap → Option R) :
    unicode_utf8_ValidString_L1 w L (fu0 + 1) s_1 σ K =
    bif (decide ((s_1.size : Int) > 0)) then (
      bif (decide (0 < (s_1.size : Int))) then (
        bif (decide (((s_1.data.toList.getD 0 0).toNat : Int) < 128)) then (
          bif ((decide (1 ≤ (s_1.size : Int))) && (decide ((s_1.size : Int) ≤ (s_1.size : Int)))) then (
            bif (decide (((s_1.extract 1 s_1.size).size : Int) > 8)) then (
              (w.unicode_utf8_word (s_1.extract 1 s_1.size) σ).bind fun q2 =>
              bif ((IntKind.u64.wrap (BitVec.ofInt IntKind.u64.bits q2.1 &&& BitVec.ofInt IntKind.u64.bits 9259542123273814144).toNat) == 0) then (
                bif ((decide (8 ≤ ((s_1.extract 1 s_1.size).size : Int))) && (decide (((s_1.extract 1 s_1.size).size : Int) ≤ ((s_1.extract 1 s_1.size).size : Int)))) then (
                  bif (decide ((((s_1.extract 1 s_1.size).extract 8 ((s_1.extract 1 s_1.size).size : Int).toNat).size : Int) > 16)) then (
                    (w.unicode_utf8_word ((s_1.extract 1 s_1.size).extract 8 ((s_1.extract 1 s_1.size).size : Int).toNat) (Heap.frz q2.2)).bind fun q3 =>
                    bif ((decide (8 ≤ (((s_1.extract 1 s_1.size).extract 8 ((s_1.extract 1 s_1.size).size : Int).toNat).size : Int))) && (decide ((((s_1.extract 1 s_1.size).extract 8 ((s_1.extract 1 s_1.size).size : Int).toNat).size : Int) ≤ (((s_1.extract 1 s_1.size).extract 8 ((s_1.extract 1 s_1.size).size : Int).toNat).size : Int)))) then (
                      (w.unicode_utf8_word (((s_1.extract 1 s_1.size).extract 8 ((s_1.extract 1 s_1.size).size : Int).toNat).extract 8 (((s_1.extract 1 s_1.size).extract 8 ((s_1.extract 1 s_1.size).size : Int).toNat).size : Int).toNat) (Heap.back q2.2 q3.2)).bind fun q4 =>
                      bif ((IntKind.u64.wrap (BitVec.ofInt IntKind.u64.bits (IntKind.u64.wrap (BitVec.ofInt IntKind.u64.bits q3.1 ||| BitVec.ofInt IntKind.u64.bits q4.1).toNat) &&& BitVec.ofInt IntKind.u64.bits 9259542123273814144).toNat) == 0) then (
                        bif ((decide (16 ≤ (((s_1.extract 1 s_1.size).extract 8 ((s_1.extract 1 s_1.size).size : Int).toNat).size : Int))) && (decide ((((s_1.extract 1 s_1.size).extract 8 ((s_1.extract 1 s_1.size).size : Int).toNat).size : Int) ≤ (((s_1.extract 1 s_1.size).extract 8 ((s_1.extract 1 s_1.size).size : Int).toNat).size : Int)))) then (
                          unicode_utf8_ValidString_L9 w L fu0 L (((s_1.extract 1 s_1.size).extract 8 ((s_1.extract 1 s_1.size).size : Int).toNat).extract 16 (((s_1.extract 1 s_1.size).extract 8 ((s_1.extract 1 s_1.size).size : Int).toNat).size : Int).toNat) q4.2 K)
                        else
                        none)
                      else unicode_utf8_ValidString_L1 w L fu0 ((s_1.extract 1 s_1.size).extract 8 ((s_1.extract 1 s_1.size).size : Int).toNat) q4.2 K)
                    else none)
                  else unicode_utf8_ValidString_L1 w L fu0 ((s_1.extract 1 s_1.size).extract 8 ((s_1.extract 1 s_1.size).size : Int).toNat) q2.2 K)
                else none)
              else unicode_utf8_ValidString_L1 w L fu0 (s_1.extract 1 s_1.size) q2.2 K)
            else unicode_utf8_ValidString_L1 w L fu0 (s_1.extract 1 s_1.size) σ K)
          else none)
        else
        bif ((decide (0 ≤ ((s_1.data.toList.getD 0 0).toNat : Int))) && (decide (((s_1.data.toList.getD 0 0).toNat : Int) < 256))) then (
          (int? (Heap.cell? σ 0 (0 + (((s_1.data.toList.getD 0 0).toNat : Int).toNat) * 1)) .u8).bind fun x5 =>
          bif ((decide (0 ≤ (Int.fdiv x5 (2 ^ 4)))) && (decide ((Int.fdiv x5 (2 ^ 4)) < 16))) then (
            (int? (Heap.cell? σ 1 (0 + ((Int.fdiv x5 (2 ^ 4)).toNat) * 2)) .u8).bind fun x6 =>
            (int? (Heap.cell? σ 1 ((0 + ((Int.fdiv x5 (2 ^ 4)).toNat) * 2) + 1)) .u8).bind fun x7 =>
            bif ((IntKind.i64.wrap (IntKind.u8.wrap (BitVec.ofInt IntKind.u8.bits x5 &&& BitVec.ofInt IntKind.u8.bits 7).toNat)) == 2) then (
              bif (decide ((s_1.size : Int) < 2)) then (
                K (.bool false) σ)
              else
              bif (decide (1 < (s_1.size : Int))) then (
                bif (decide (((s_1.data.toList.getD 1 0).toNat : Int) < x6)) then (
                  K (.bool false) σ)
                else
                bif (decide (1 < (s_1.size : Int))) then (
                  bif (decide (x7 < ((s_1.data.toList.getD 1 0).toNat : Int))) then (
                    K (.bool false) σ)
                  else
                  bif ((decide (2 ≤ (s_1.size : Int))) && (decide ((s_1.size : Int) ≤ (s_1.size : Int)))) then (
                    unicode_utf8_ValidString_L1 w L fu0 (s_1.extract 2 s_1.size) σ K)
                  else
                  none)
                else none)
              else none)
            else
            bif ((IntKind.i64.wrap (IntKind.u8.wrap (BitVec.ofInt IntKind.u8.bits x5 &&& BitVec.ofInt IntKind.u8.bits 7).toNat)) == 3) then (
              bif (decide ((s_1.size : Int) < 3)) then (
                K (.bool false) σ)
              else
              bif (decide (1 < (s_1.size : Int))) then (
                bif (decide (((s_1.data.toList.getD 1 0).toNat : Int) < x6)) then (
                  K (.bool false) σ)
                else
                bif (decide (1 < (s_1.size : Int))) then (
                  bif (decide (x7 < ((s_1.data.toList.getD 1 0).toNat : Int))) then (
                    K (.bool false) σ)
                  else
                  bif (decide (2 < (s_1.size : Int))) then (
                    bif (decide (((s_1.data.toList.getD 2 0).toNat : Int) < 128)) then (
                      K (.bool false) σ)
                    else
                    bif (decide (2 < (s_1.size : Int))) then (
                      bif (decide (191 < ((s_1.data.toList.getD 2 0).toNat : Int))) then (
                        K (.bool false) σ)
                      else
                      bif ((decide (3 ≤ (s_1.size : Int))) && (decide ((s_1.size : Int) ≤ (s_1.size : Int)))) then (
                        unicode_utf8_ValidString_L1 w L fu0 (s_1.extract 3 s_1.size) σ K)
                      else
                      none)
                    else none)
                  else none)
                else none)
              else none)
            else
            bif ((IntKind.i64.wrap (IntKind.u8.wrap (BitVec.ofInt IntKind.u8.bits x5 &&& BitVec.ofInt IntKind.u8.bits 7).toNat)) == 4) then (
              bif (decide ((s_1.size : Int) < 4)) then (
                K (.bool false) σ)
              else
              bif (decide (1 < (s_1.size : Int))) then (
                bif (decide (((s_1.data.toList.getD 1 0).toNat : Int) < x6)) then (
                  K (.bool false) σ)
                else
                bif (decide (1 < (s_1.size : Int))) then (
                  bif (decide (x7 < ((s_1.data.toList.getD 1 0).toNat : Int))) then (
                    K (.bool false) σ)
                  else
                  bif (decide (2 < (s_1.size : Int))) then (
                    bif (decide (((s_1.data.toList.getD 2 0).toNat : Int) < 128)) then (
                      K (.bool false) σ)
                    else
                    bif (decide (2 < (s_1.size : Int))) then (
                      bif (decide (191 < ((s_1.data.toList.getD 2 0).toNat : Int))) then (
                        K (.bool false) σ)
                      else
                      bif (decide (3 < (s_1.size : Int))) then (
                        bif (decide (((s_1.data.toList.getD 3 0).toNat : Int) < 128)) then (
                          K (.bool false) σ)
                        else
                        bif (decide (3 < (s_1.size : Int))) then (
                          bif (decide (191 < ((s_1.data.toList.getD 3 0).toNat : Int))) then (
                            K (.bool false) σ)
                          else
                          bif ((decide (4 ≤ (s_1.size : Int))) && (decide ((s_1.size : Int) ≤ (s_1.size : Int)))) then (
                            unicode_utf8_ValidString_L1 w L fu0 (s_1.extract 4 s_1.size) σ K)
                          else
                          none)
                        else none)
                      else none)
                    else none)
                  else none)
                else none)
              else none)
            else K (.bool false) σ)
          else none)
        else none)
      else none)
    else K (.bool true) σ := by kernel_rfl
set_option maxRecDepth 100000 in
theorem unicode_utf8_ValidString_L9_eq {R : Type} (w : C_unicode_utf8_ValidString) (L fu0 fu1 : Nat) (s_2 : ByteArray) (σ : Heap) (K : AVal → Heap → Option R) :
    unicode_utf8_ValidString_L9 w L fu0 (fu1 + 1) s_2 σ K =
    bif (decide ((s_2.size : Int) > 32)) then (
      (w.unicode_utf8_word s_2 (Heap.frz σ)).bind fun q8 =>
      bif ((decide (8 ≤ (s_2.size : Int))) && (decide ((s_2.size : Int) ≤ (s_2.size : Int)))) then (
        (w.unicode_utf8_word (s_2.extract 8 s_2.size) (Heap.frz (Heap.back σ q8.2))).bind fun q9 =>
        bif ((decide (16 ≤ (s_2.size : Int))) && (decide ((s_2.size : Int) ≤ (s_2.size : Int)))) then (
          (w.unicode_utf8_word (s_2.extract 16 s_2.size) (Heap.frz (Heap.back (Heap.back σ q8.2) q9.2))).bind fun q10 =>
          bif ((decide (24 ≤ (s_2.size : Int))) && (decide ((s_2.size : Int) ≤ (s_2.size : Int)))) then (
            (w.unicode_utf8_word (s_2.extract 24 s_2.size) (Heap.frz (Heap.back (Heap.back (Heap.back σ q8.2) q9.2) q10.2))).bind fun q11 =>
            bif ((IntKind.u64.wrap (BitVec.ofInt IntKind.u64.bits (IntKind.u64.wrap (BitVec.ofInt IntKind.u64.bits (IntKind.u64.wrap (BitVec.ofInt IntKind.u64.bits q8.1 ||| BitVec.ofInt IntKind.u64.bits q9.1).toNat) ||| BitVec.ofInt IntKind.u64.bits (IntKind.u64.wrap (BitVec.ofInt IntKind.u64.bits q10.1 ||| BitVec.ofInt IntKind.u64.bits q11.1).toNat)).toNat) &&& BitVec.ofInt IntKind.u64.bits 9259542123273814144).toNat) == 0) then (
              bif ((decide (32 ≤ (s_2.size : Int))) && (decide ((s_2.size : Int) ≤ (s_2.size : Int)))) then (
                unicode_utf8_ValidString_L9 w L fu0 fu1 (s_2.extract 32 s_2.size) (Heap.back (Heap.back (Heap.back (Heap.back σ q8.2) q9.2) q10.2) q11.2) K)
              else
              none)
            else unicode_utf8_ValidString_L1 w L fu0 s_2 (Heap.back (Heap.back (Heap.back (Heap.back σ q8.2) q9.2) q10.2) q11.2) K)
          else none)
        else none)
      else none)
    else unicode_utf8_ValidString_L1 w L fu0 s_2 σ K := by kernel_rfl
set_option maxRecDepth 100000 in
theorem unicode_utf8_ValidString_eq {R : Type} (w : C_unicode_utf8_ValidString) (L : Nat) (s1 : ByteArray) (σ : Heap) (K : AVal → Heap → Option R) :
    callC T (O_unicode_utf8_ValidString w) L 2 33 [.str s1] σ K =
    unicode_utf8_ValidString_L1 w L L s1 σ K := by kernel_rfl
/-! json_hex -/
set_option maxRecDepth 100000 in
theorem json_hex_eq {R : Type} (L : Nat) (c1 : Int) (σ : Heap) (K : AVal → Heap → Option R) :
    callC T known0 L 2 45 [.int .u8 c1] σ K =
    bif (decide (c1 ≥ 48)) then (
      bif (decide (c1 ≤ 57)) then (
        K (.int .i64 (IntKind.i64.wrap (IntKind.u8.wrap (c1 - 48)))) σ)
      else
      bif (decide (c1 ≥ 97)) then (
        bif (decide (c1 ≤ 102)) then (
          K (.int .i64 (IntKind.i64.wrap ((IntKind.i64.wrap (IntKind.u8.wrap (c1 - 97))) + 10))) σ)
        else
        K (.int .i64 (-1)) σ)
      else K (.int .i64 (-1)) σ)
    else
    bif (decide (c1 ≥ 97)) then (
      bif (decide (c1 ≤ 102)) then (
        K (.int .i64 (IntKind.i64.wrap ((IntKind.i64.wrap (IntKind.u8.wrap (c1 - 97))) + 10))) σ)
      else
      K (.int .i64 (-1)) σ)
    else K (.int .i64 (-1)) σ := by kernel_rfl
/-! json_escape -/
set_option maxRecDepth 100000 in
theorem json_escape_eq {R : Type} (w : C_json_escape) (L : Nat) (s1 : ByteArray) (σ : Heap) (K : AVal → Heap → Option R) :
    callC T (O_json_escape w) L 2 34 [.str s1] σ K =
    bif (s1.toList == (⟨#[]⟩ : ByteArray).toList) then (
      K (.tuple [.int .u8 0, .int .i64 0]) σ)
    else
    bif (decide (0 < (s1.size : Int))) then (
      bif (((s1.data.toList.getD 0 0).toNat : Int) == 110) then (
        K (.tuple [.int .u8 10, .int .i64 1]) σ)
      else
      bif (decide (0 < (s1.size : Int))) then (
        bif (((s1.data.toList.getD 0 0).toNat : Int) == 114) then (
          K (.tuple [.int .u8 13, .int .i64 1]) σ)
        else
        bif (decide (0 < (s1.size : Int))) then (
          bif (((s1.data.toList.getD 0 0).toNat : Int) == 34) then (
            bif (decide (0 < (s1.size : Int))) then (
              K (.tuple [.int .u8 ((s1.data.toList.getD 0 0).toNat : Int), .int .i64 1]) σ)
            else
            none)
          else
          bif (decide (0 < (s1.size : Int))) then (
            bif (((s1.data.toList.getD 0 0).toNat : Int) == 92) then (
              bif (decide (0 < (s1.size : Int))) then (
                K (.tuple [.int .u8 ((s1.data.toList.getD 0 0).toNat : Int), .int .i64 1]) σ)
              else
              none)
            else
            bif (decide ((s1.size : Int) ≥ 5)) then (
              bif (decide (3 ≤ (s1.size : Int))) then (
                bif ((s1.extract 0 3).toList == (⟨#[117, 48, 48]⟩ : ByteArray).toList) then (
                  bif (decide (3 < (s1.size : Int))) then (
                    (w.json_hex ((s1.data.toList.getD 3 0).toNat : Int) σ).bind fun q2 =>
                    bif (decide (q2.1 ≥ 0)) then (
                      bif (decide (4 < (s1.size : Int))) then (
                        (w.json_hex ((s1.data.toList.getD 4 0).toNat : Int) q2.2).bind fun q3 =>
                        bif (decide (q3.1 ≥ 0)) then (
                          bif (decide (3 < (s1.size : Int))) then (
                            (w.json_hex ((s1.data.toList.getD 3 0).toNat : Int) (Heap.frz q3.2)).bind fun q4 =>
                            bif (decide (4 < (s1.size : Int))) then (
                              (w.json_hex ((s1.data.toList.getD 4 0).toNat : Int) (Heap.frz (Heap.back q3.2 q4.2))).bind fun q5 =>
                              K (.tuple [.int .u8 (IntKind.u8.wrap (IntKind.i64.wrap ((IntKind.i64.wrap (16 * q4.1)) + q5.1))), .int .i64 5]) (Heap.back (Heap.back q3.2 q4.2) q5.2))
                            else none)
                          else none)
                        else K (.tuple [.int .u8 0, .int .i64 0]) q3.2)
                      else none)
                    else K (.tuple [.int .u8 0, .int .i64 0]) q2.2)
                  else none)
                else K (.tuple [.int .u8 0, .int .i64 0]) σ)
              else none)
            else K (.tuple [.int .u8 0, .int .i64 0]) σ)
          else none)
        else none)
      else none)
    else none := by kernel_rfl
/-! json_Unquote -/
noncomputable def json_Unquote_L5 {R : Type} (w : C_json_Unquote) (L fu0 : Nat) (s1 : ByteArray) (out_1 : Sl) (i_2 : Int) (σ : Heap) (K : AVal → Heap → Option R) : Option R :=
  loopAt T (O_json_Unquote w) L 1 20 Tryd.f20 [1, 1, 1, 0, 1, 0] [] fu0
    ([.str s1] ++ List.replicate 4 .undef ++ [.slice out_1.b out_1.o out_1.n 1, .int .i64 i_2] ++ List.replicate 65 .undef)
    (List.replicate 72 .none) σ K
set_option maxRecDepth 100000 in
theorem json_Unquote_L5_eq {R : Type} (w : C_json_Unquote) (L fu0 : Nat) (s1 : ByteArray) (out_1 : Sl) (i_2 : Int) (σ : Heap) (K : AVal → Heap → Option R) :
    json_Unquote_L5 w L (fu0 + 1) s1 out_1 i_2 σ K =
    bif (decide (i_2 < (s1.size : Int))) then (
      bif ((decide (0 ≤ i_2)) && (decide (i_2 < (s1.size : Int)))) then (
        bif (((s1.data.toList.getD i_2.toNat 0).toNat : Int) == 34) then (
          (Heap.read σ out_1.b out_1.o out_1.n 1).bind fun cs2 =>
          (bytesOf cs2).bind fun bs3 =>
          (w.unicode_utf8_ValidString (⟨bs3.toArray⟩ : ByteArray) σ).bind fun q4 =>
          bif (!q4.1) then (
            K (.tuple [.str (⟨#[]⟩ : ByteArray), .str (⟨#[]⟩ : ByteArray), .bool false]) q4.2)
          else
          (w.json_Quote (⟨bs3.toArray⟩ : ByteArray) (Heap.frz q4.2)).bind fun q5 =>
          bif ((decide (0 ≤ (IntKind.i64.wrap (i_2 + 1)))) && (decide ((IntKind.i64.wrap (i_2 + 1)) ≤ (s1.size : Int)))) then (
            bif (!(q5.1.toList == (s1.extract 0 (IntKind.i64.wrap (i_2 + 1)).toNat).toList)) then (
              K (.tuple [.str (⟨#[]⟩ : ByteArray), .str (⟨#[]⟩ : ByteArray), .bool false]) (Heap.back q4.2 q5.2))
            else
            bif (((decide (0 ≤ (IntKind.i64.wrap (i_2 + 1)))) && (decide ((IntKind.i64.wrap (i_2 + 1)) ≤ (s1.size : Int)))) && (decide ((s1.size : Int) ≤ (s1.size : Int)))) then (
              K (.tuple [.str (⟨bs3.toArray⟩ : ByteArray), .str (s1.extract (IntKind.i64.wrap (i_2 + 1)).toNat s1.size), .bool true]) (Heap.back q4.2 q5.2))
            else
            none)
          else none)
        else
        bif (((s1.data.toList.getD i_2.toNat 0).toNat : Int) == 92) then (
          bif (((decide (0 ≤ (IntKind.i64.wrap (i_2 + 1)))) && (decide ((IntKind.i64.wrap (i_2 + 1)) ≤ (s1.size : Int)))) && (decide ((s1.size : Int) ≤ (s1.size : Int)))) then (
            (w.json_escape (s1.extract (IntKind.i64.wrap (i_2 + 1)).toNat s1.size) σ).bind fun q6 =>
            bif (q6.1.2 == 0) then (
              K (.tuple [.str (⟨#[]⟩ : ByteArray), .str (⟨#[]⟩ : ByteArray), .bool false]) q6.2)
            else
            (Heap.append q6.2 out_1.b out_1.o out_1.n 1 1 [.int .u8 q6.1.1] 1).bind fun q7 =>
            json_Unquote_L5 w L fu0 s1 ⟨q7.1.1, q7.1.2.1, q7.1.2.2⟩ (IntKind.i64.wrap ((IntKind.i64.wrap (i_2 + q6.1.2)) + 1)) q7.2 K)
          else none)
        else
        (Heap.append σ out_1.b out_1.o out_1.n 1 1 [.int .u8 ((s1.data.toList.getD i_2.toNat 0).toNat : Int)] 1).bind fun q8 =>
        json_Unquote_L5 w L fu0 s1 ⟨q8.1.1, q8.1.2.1, q8.1.2.2⟩ (IntKind.i64.wrap (i_2 + 1)) q8.2 K)
      else none)
    else K (.tuple [.str (⟨#[]⟩ : ByteArray), .str (⟨#[]⟩ : ByteArray), .bool false]) σ := by kernel_rfl
set_option maxRecDepth 100000 in
theorem json_Unquote_eq {R : Type} (w : C_json_Unquote) (L : Nat) (s1 : ByteArray) (σ : Heap) (K : AVal → Heap → Option R) :
    callC T (O_json_Unquote w) L 2 20 [.str s1] σ K =
    bif (s1.toList == (⟨#[]⟩ : ByteArray).toList) then (
      K (.tuple [.str (⟨#[]⟩ : ByteArray), .str (⟨#[]⟩ : ByteArray), .bool false]) σ)
    else
    bif (decide (0 < (s1.size : Int))) then (
      bif (((s1.data.toList.getD 0 0).toNat : Int) != 34) then (
        K (.tuple [.str (⟨#[]⟩ : ByteArray), .str (⟨#[]⟩ : ByteArray), .bool false]) σ)
      else
      json_Unquote_L5 w L L s1 ⟨none, 0, 0⟩ 1 σ K)
    else none := by kernel_rfl
/-! law03_whole -/
set_option maxRecDepth 100000 in
theorem law03_whole_eq {R : Type} (L : Nat) (s1 : ByteArray) (σ : Heap) (K : AVal → Heap → Option R) :
    callC T known0 L 2 21 [.str s1] σ K =
    bif (decide (s1.size ≤ 70368744177664)) then (
      alloc σ ((runesA s1 s1.size 0).map fun n => AVal.int .i32 n) fun b2 σ3 =>
      (Heap.read σ3 (some b2) 0 ((runesA s1 s1.size 0).length) 1).bind fun cs4 =>
      (runesIn cs4).bind fun rs5 =>
      K (.str (encodeAll rs5)) σ3)
    else none := by kernel_rfl
/-! law03_JsonTexts -/
noncomputable def law03_JsonTexts_L10 {R : Type} (w : C_law03_JsonTexts) (L fu0 : Nat) (q_1 : ByteArray) (x_2 : Int) (x_3 : Int) (σ : Heap) (K : AVal → Heap → Option R) : Option R :=
  loopAt T (O_law03_JsonTexts w) L 1 6 Tryd.f6 [1, 1, 1, 1, 1, 1, 0, 1, 0] [] fu0
    (List.replicate 5 .undef ++ [.str q_1] ++ List.replicate 44 .undef ++ [.int .i64 x_2, .int .i64 x_3] ++ List.replicate 13 .undef)
    (List.replicate 65 .none) σ K
set_option maxRecDepth 100000 in
theorem law03_JsonTexts_L10_eq {R : Type} (w : C_law03_JsonTexts) (L fu0 : Nat) (q_1 : ByteArray) (x_2 : Int) (x_3 : Int) (σ : Heap) (K : AVal → Heap → Option R) :
    law03_JsonTexts_L10 w L (fu0 + 1) q_1 x_2 x_3 σ K =
    bif (decide (x_3 < x_2)) then (
      bif ((decide (0 ≤ x_3)) && (decide (x_3 < (q_1.size : Int)))) then (
        bif (decide (((q_1.data.toList.getD x_3.toNat 0).toNat : Int) < 32)) then (
          K (.bool false) σ)
        else
        bif ((decide (0 ≤ x_3)) && (decide (x_3 < (q_1.size : Int)))) then (
          bif (((q_1.data.toList.getD x_3.toNat 0).toNat : Int) == 127) then (
            K (.bool false) σ)
          else
          law03_JsonTexts_L10 w L fu0 q_1 x_2 (IntKind.i64.wrap (x_3 + 1)) σ K)
        else none)
      else none)
    else K (.bool true) σ := by kernel_rfl
set_option maxRecDepth 100000 in
theorem law03_JsonTexts_eq {R : Type} (w : C_law03_JsonTexts) (L : Nat) (s1 : ByteArray) (more2 : ByteArray) (σ : Heap) (K : AVal → Heap → Option R) :
    callC T (O_law03_JsonTexts w) L 2 6 [.str s1, .str more2] σ K =
    (w.law03_fit σ).bind fun q3 =>
    bif (!q3.1) then (
      K (.bool false) q3.2)
    else
    bif (decide ((s1.size : Int) > 300)) then (
      K (.bool true) q3.2)
    else
    bif (decide ((more2.size : Int) > 300)) then (
      K (.bool true) q3.2)
    else
    (w.json_Quote s1 q3.2).bind fun q4 =>
    if q4.1.size + more2.size ≤ 9223372036854775807 then (
      (w.json_Unquote (q4.1 ++ more2) q4.2).bind fun q5 =>
      bif (!q5.1.2.2) then (
        K (.bool false) q5.2)
      else
      bif (!(q5.1.2.1.toList == more2.toList)) then (
        K (.bool false) q5.2)
      else
      (w.law03_whole s1 q5.2).bind fun q6 =>
      bif (!(q5.1.1.toList == q6.1.toList)) then (
        K (.bool false) q6.2)
      else
      (w.json_Quote q5.1.1 q6.2).bind fun q7 =>
      bif (!(q7.1.toList == q4.1.toList)) then (
        K (.bool false) q7.2)
      else
      law03_JsonTexts_L10 w L L q4.1 (q4.1.size : Int) 0 q7.2 K)
    else (
      none) := by kernel_rfl
/-! law03_JsonAny -/
set_option maxRecDepth 100000 in
theorem law03_JsonAny_eq {R : Type} (w : C_law03_JsonAny) (L : Nat) (s1 : ByteArray) (σ : Heap) (K : AVal → Heap → Option R) :
    callC T (O_law03_JsonAny w) L 2 7 [.str s1] σ K =
    (w.law03_fit σ).bind fun q2 =>
    bif (!q2.1) then (
      K (.bool false) q2.2)
    else
    bif (decide ((s1.size : Int) > 300)) then (
      K (.bool true) q2.2)
    else
    (w.json_Unquote s1 q2.2).bind fun q3 =>
    bif (!q3.1.2.2) then (
      bif (q3.1.1.toList == (⟨#[]⟩ : ByteArray).toList) then (
        K (.bool (q3.1.2.1.toList == (⟨#[]⟩ : ByteArray).toList)) q3.2)
      else
      K (.bool false) q3.2)
    else
    (w.json_Quote q3.1.1 q3.2).bind fun q4 =>
    if q4.1.size + q3.1.2.1.size ≤ 9223372036854775807 then (
      bif ((q4.1 ++ q3.1.2.1).toList == s1.toList) then (
        (w.law03_whole q3.1.1 q4.2).bind fun q5 =>
        K (.bool (q5.1.toList == q3.1.1.toList)) q5.2)
      else K (.bool false) q4.2)
    else (
      none) := by kernel_rfl
end Go.Abs.TB
