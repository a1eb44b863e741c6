/-
Lifted functions: what the machine does, one equation for each entry and each loop (printed by lift.py).
-/
import Derived.Test.YtlfndndmegjnlaaDoorSigD
namespace Go.Abs.TD
open Go Go.Abs Go.Proofs
/-! command_Parse -/
noncomputable def command_Parse_L3 {R : Type} (w : C_command_Parse) (L fu0 : Nat) (first_1 : ByteArray) (rest_2 : ByteArray) (more_3 : Bool) (x3 : ByteArray) (x4 : ByteArray) (x5 : ByteArray) (x6 : ByteArray) (x7 : ByteArray) (x8 : ByteArray) (x9 : ByteArray) (x10 : ByteArray) (x11 : ByteArray) (x12 : ByteArray) (x13 : ByteArray) (x14 : ByteArray) (x15 : ByteArray) (x16 : ByteArray) (x17 : ByteArray) (x18 : ByteArray) (x19 : ByteArray) (x20 : ByteArray) (x_4 : Int) (σ : Heap) (K : AVal → Heap → Option R) : Option R :=
  loopAt T (O_command_Parse w) L 1 9 Tryd.f9 [1, 1, 0, 1, 0] [] fu0
    ([.undef, .undef, .lptr 2 0, .undef, .str first_1, .str rest_2, .bool more_3] ++ List.replicate 10 .undef ++ [.agg [.str x3, .str x4, .str x5, .str x6, .str x7, .str x8, .str x9, .str x10, .str x11, .str x12, .str x13, .str x14, .str x15, .str x16, .str x17, .str x18, .str x19, .str x20], .int .i64 x_4] ++ List.replicate 18 .undef)
    ([.none, .none, .cells [.int .i64 0, .int .i64 0, .int .i64 0, .str (⟨#[]⟩ : ByteArray)]] ++ List.replicate 34 .none) σ K
set_option maxRecDepth 100000 in
theorem command_Parse_L3_eq {R : Type} (w : C_command_Parse) (L fu0 : Nat) (first_1 : ByteArray) (rest_2 : ByteArray) (more_3 : Bool) (x3 : ByteArray) (x4 : ByteArray) (x5 : ByteArray) (x6 : ByteArray) (x7 : ByteArray) (x8 : ByteArray) (x9 : ByteArray) (x10 : ByteArray) (x11 : ByteArray) (x12 : ByteArray) (x13 : ByteArray) (x14 : ByteArray) (x15 : ByteArray) (x16 : ByteArray) (x17 : ByteArray) (x18 : ByteArray) (x19 : ByteArray) (x20 : ByteArray) (x_4 : Int) (σ : Heap) (K : AVal → Heap → Option R) :
    command_Parse_L3 w L (fu0 + 1) first_1 rest_2 more_3 x3 x4 x5 x6 x7 x8 x9 x10 x11 x12 x13 x14 x15 x16 x17 x18 x19 x20 x_4 σ K =
    bif (decide (x_4 < 18)) then (
      bif ((decide (0 ≤ x_4)) && (decide (x_4 < 18))) then (
        (str? (([.str x3, .str x4, .str x5, .str x6, .str x7, .str x8, .str x9, .str x10, .str x11, .str x12, .str x13, .str x14, .str x15, .str x16, .str x17, .str x18, .str x19, .str x20] : List AVal)[x_4.toNat * 1]?)).bind fun x21 =>
        bif (!(x21.toList == first_1.toList)) then (
          command_Parse_L3 w L fu0 first_1 rest_2 more_3 x3 x4 x5 x6 x7 x8 x9 x10 x11 x12 x13 x14 x15 x16 x17 x18 x19 x20 (IntKind.i64.wrap (x_4 + 1)) σ K)
        else
        alloc σ [.int .i64 0, .int .i64 0, .int .i64 0, .str (⟨#[]⟩ : ByteArray)] fun b22 σ23 =>
        (Heap.store σ23 b22 0 [.int .i64 x_4, .int .i64 0, .int .i64 0, .str (⟨#[]⟩ : ByteArray)]).bind fun σ24 =>
        (w.command_Command_fill (some (b22, 0)) rest_2 more_3 σ24).bind fun q25 =>
        bif (q25.1 != 0) then (
          K (.tuple [.agg [.int .i64 0, .int .i64 0, .int .i64 0, .str (⟨#[]⟩ : ByteArray)], .int .i64 q25.1]) q25.2)
        else
        (int? (Heap.cell? q25.2 b22 0) .i64).bind fun x26 =>
        (int? (Heap.cell? q25.2 b22 1) .i64).bind fun x27 =>
        (int? (Heap.cell? q25.2 b22 2) .i64).bind fun x28 =>
        (str? (Heap.cell? q25.2 b22 3)).bind fun x29 =>
        K (.tuple [.agg [.int .i64 x26, .int .i64 x27, .int .i64 x28, .str x29], .int .i64 0]) q25.2)
      else none)
    else K (.tuple [.agg [.int .i64 0, .int .i64 0, .int .i64 0, .str (⟨#[]⟩ : ByteArray)], .int .i64 1]) σ := by kernel_rfl
set_option maxRecDepth 100000 in
theorem command_Parse_eq {R : Type} (w : C_command_Parse) (L : Nat) (s1 : ByteArray) (σ : Heap) (K : AVal → Heap → Option R) :
    callC T (O_command_Parse w) L 2 9 [.str s1] σ K =
    (w.strings_Cut s1 (⟨#[32]⟩ : ByteArray) σ).bind fun q2 =>
    (str? (Heap.cell? q2.2 0 0)).bind fun x3 =>
    (str? (Heap.cell? q2.2 0 1)).bind fun x4 =>
    (str? (Heap.cell? q2.2 0 2)).bind fun x5 =>
    (str? (Heap.cell? q2.2 0 3)).bind fun x6 =>
    (str? (Heap.cell? q2.2 0 4)).bind fun x7 =>
    (str? (Heap.cell? q2.2 0 5)).bind fun x8 =>
    (str? (Heap.cell? q2.2 0 6)).bind fun x9 =>
    (str? (Heap.cell? q2.2 0 7)).bind fun x10 =>
    (str? (Heap.cell? q2.2 0 8)).bind fun x11 =>
    (str? (Heap.cell? q2.2 0 9)).bind fun x12 =>
    (str? (Heap.cell? q2.2 0 10)).bind fun x13 =>
    (str? (Heap.cell? q2.2 0 11)).bind fun x14 =>
    (str? (Heap.cell? q2.2 0 12)).bind fun x15 =>
    (str? (Heap.cell? q2.2 0 13)).bind fun x16 =>
    (str? (Heap.cell? q2.2 0 14)).bind fun x17 =>
    (str? (Heap.cell? q2.2 0 15)).bind fun x18 =>
    (str? (Heap.cell? q2.2 0 16)).bind fun x19 =>
    (str? (Heap.cell? q2.2 0 17)).bind fun x20 =>
    command_Parse_L3 w L L q2.1.1 q2.1.2.1 q2.1.2.2 x3 x4 x5 x6 x7 x8 x9 x10 x11 x12 x13 x14 x15 x16 x17 x18 x19 x20 0 q2.2 K := by kernel_rfl
/-! command_Table_Find -/
noncomputable def command_Table_Find_L2 {R : Type} (L fu0 : Nat) (key2 : Int) (t1 : Sl) (x_1 : Int) (σ : Heap) (K : AVal → Heap → Option R) : Option R :=
  loopAt T known0 L 1 14 Tryd.f14 [1, 0, 1, 0] [] fu0
    ([.undef, .int .u8 key2] ++ List.replicate 5 .undef ++ [.slice t1.b t1.o t1.n 2, .int .i64 (t1.n : Int), .int .i64 x_1] ++ List.replicate 10 .undef)
    (List.replicate 20 .none) σ K
set_option maxRecDepth 100000 in
theorem command_Table_Find_L2_eq {R : Type} (L fu0 : Nat) (key2 : Int) (t1 : Sl) (x_1 : Int) (σ : Heap) (K : AVal → Heap → Option R) :
    command_Table_Find_L2 L (fu0 + 1) key2 t1 x_1 σ K =
    bif (decide (x_1 < (t1.n : Int))) then (
      bif ((decide (0 ≤ x_1)) && (decide (x_1 < (t1.n : Int)))) then (
        (t1.b).bind fun b3 =>
        (int? (Heap.cell? σ b3 (t1.o + x_1.toNat * 2)) .u8).bind fun x4 =>
        (str? (Heap.cell? σ b3 ((t1.o + x_1.toNat * 2) + 1))).bind fun x5 =>
        bif (x4 == key2) then (
          K (.str x5) σ)
        else
        command_Table_Find_L2 L fu0 key2 t1 (IntKind.i64.wrap (x_1 + 1)) σ K)
      else none)
    else K (.str (⟨#[]⟩ : ByteArray)) σ := by kernel_rfl
set_option maxRecDepth 100000 in
theorem command_Table_Find_eq {R : Type} (L : Nat) (t1 : Sl) (key2 : Int) (σ : Heap) (K : AVal → Heap → Option R) :
    callC T known0 L 2 14 [.slice t1.b t1.o t1.n 2, .int .u8 key2] σ K =
    command_Table_Find_L2 L L key2 t1 0 σ K := by kernel_rfl
/-! command_Standard -/
noncomputable def command_Standard_L3 {R : Type} (L fu0 : Nat) (t_1 : Sl) (c_2 : Int) (σ : Heap) (K : AVal → Heap → Option R) : Option R :=
  loopAt T known0 L 1 17 Tryd.f17 [1, 1, 0, 1, 0] [] fu0
    ([.undef, .slice t_1.b t_1.o t_1.n 2, .int .u8 c_2] ++ List.replicate 26 .undef)
    (List.replicate 29 .none) σ K
set_option maxRecDepth 100000 in
theorem command_Standard_L3_eq {R : Type} (L fu0 : Nat) (t_1 : Sl) (c_2 : Int) (σ : Heap) (K : AVal → Heap → Option R) :
    command_Standard_L3 L (fu0 + 1) t_1 c_2 σ K =
    bif (decide (c_2 ≤ 57)) then (
      alloc σ [.int .u8 c_2] fun b3 σ4 =>
      (Heap.read σ4 (some b3) 0 1 1).bind fun cs5 =>
      (bytesOf cs5).bind fun bs6 =>
      if (⟨#[102, 111, 99, 117, 115, 32]⟩ : ByteArray).size + (⟨bs6.toArray⟩ : ByteArray).size ≤ 9223372036854775807 then (
        (Heap.append σ4 t_1.b t_1.o t_1.n 2 24 [.int .u8 c_2, .str ((⟨#[102, 111, 99, 117, 115, 32]⟩ : ByteArray) ++ (⟨bs6.toArray⟩ : ByteArray))] 1).bind fun q7 =>
        command_Standard_L3 L fu0 ⟨q7.1.1, q7.1.2.1, q7.1.2.2⟩ (IntKind.u8.wrap (c_2 + 1)) q7.2 K)
      else (
        none))
    else
    (Heap.append σ t_1.b t_1.o t_1.n 2 24 [.int .u8 108, .str (⟨#[108, 105, 118, 101]⟩ : ByteArray), .int .u8 109, .str (⟨#[109, 97, 114, 107, 32, 107, 101, 121]⟩ : ByteArray), .int .u8 112, .str (⟨#[112, 108, 97, 121, 32, 49, 47, 49]⟩ : ByteArray), .int .u8 114, .str (⟨#[114, 101, 119, 105, 110, 100, 32, 48]⟩ : ByteArray), .int .u8 120, .str (⟨#[107, 105, 108, 108]⟩ : ByteArray)] 5).bind fun q8 =>
    K (.slice q8.1.1 q8.1.2.1 q8.1.2.2 2) q8.2 := by kernel_rfl
set_option maxRecDepth 100000 in
theorem command_Standard_eq {R : Type} (L : Nat) (σ : Heap) (K : AVal → Heap → Option R) :
    callC T known0 L 2 17 [] σ K =
    alloc σ [.int .u8 32, .str (⟨#[112, 97, 117, 115, 101]⟩ : ByteArray), .int .u8 34, .str (⟨#[102, 108, 97, 116]⟩ : ByteArray), .int .u8 37, .str (⟨#[115, 112, 108, 105, 116]⟩ : ByteArray), .int .u8 46, .str (⟨#[115, 116, 101, 112]⟩ : ByteArray)] fun b1 σ2 =>
    command_Standard_L3 L L ⟨(some b1), 0, 4⟩ 48 σ2 K := by kernel_rfl
/-! law21_fit -/
set_option maxRecDepth 100000 in
theorem law21_fit_eq {R : Type} (w : C_law21_fit) (L : Nat) (σ : Heap) (K : AVal → Heap → Option R) :
    callC T (O_law21_fit w) L 2 8 [] σ K =
    (w.command_Parse (⟨#[112, 108, 97, 121, 32, 51, 47, 50]⟩ : ByteArray) σ).bind fun q1 =>
    bif (q1.1.2 == 0) then (
      bif (q1.1.1.Kind == 7) then (
        bif (q1.1.1.N == 3) then (
          bif (q1.1.1.M == 2) then (
            (w.command_Standard q1.2).bind fun q2 =>
            (w.command_Table_Find q2.1 120 q2.2).bind fun q3 =>
            K (.bool (q3.1.toList == (⟨#[107, 105, 108, 108]⟩ : ByteArray).toList)) q3.2)
          else K (.bool false) q1.2)
        else K (.bool false) q1.2)
      else K (.bool false) q1.2)
    else K (.bool false) q1.2 := by kernel_rfl
/-! ref21_Word -/
set_option maxRecDepth 100000 in
theorem ref21_Word_eq {R : Type} (L : Nat) (kind1 : Int) (σ : Heap) (K : AVal → Heap → Option R) :
    callC T known0 L 2 20 [.int .i64 kind1] σ K =
    alloc σ [.str (⟨#[115, 112, 108, 105, 116]⟩ : ByteArray), .str (⟨#[102, 108, 97, 116]⟩ : ByteArray), .str (⟨#[107, 105, 108, 108]⟩ : ByteArray), .str (⟨#[102, 111, 99, 117, 115]⟩ : ByteArray), .str (⟨#[109, 97, 114, 107]⟩ : ByteArray), .str (⟨#[114, 101, 119, 105, 110, 100]⟩ : ByteArray), .str (⟨#[102, 105, 110, 100]⟩ : ByteArray), .str (⟨#[112, 108, 97, 121]⟩ : ByteArray), .str (⟨#[112, 97, 117, 115, 101]⟩ : ByteArray), .str (⟨#[115, 116, 101, 112]⟩ : ByteArray), .str (⟨#[108, 105, 118, 101]⟩ : ByteArray), .str (⟨#[115, 121, 110, 99]⟩ : ByteArray), .str (⟨#[102, 105, 110, 105, 115, 104]⟩ : ByteArray), .str (⟨#[116, 114, 105, 109]⟩ : ByteArray), .str (⟨#[106, 111, 105, 110]⟩ : ByteArray), .str (⟨#[101, 120, 112, 111, 114, 116]⟩ : ByteArray), .str (⟨#[98, 105, 110, 100]⟩ : ByteArray), .str (⟨#[117, 110, 98, 105, 110, 100]⟩ : ByteArray)] fun b2 σ3 =>
    bif (decide (kind1 < 0)) then (
      K (.str (⟨#[]⟩ : ByteArray)) σ3)
    else
    bif (decide (kind1 ≥ 18)) then (
      K (.str (⟨#[]⟩ : ByteArray)) σ3)
    else
    bif ((decide (0 ≤ kind1)) && (decide (kind1 < 18))) then (
      (str? (Heap.cell? σ3 b2 (0 + kind1.toNat * 1))).bind fun x4 =>
      K (.str x4) σ3)
    else none := by kernel_rfl
/-! ref21_number -/
noncomputable def ref21_number_L5 {R : Type} (L fu0 : Nat) (s1 : ByteArray) (n_1 : Int) (i_2 : Int) (σ : Heap) (K : AVal → Heap → Option R) : Option R :=
  loopAt T known0 L 1 30 Tryd.f30 [1, 1, 1, 0, 1, 0] [] fu0
    ([.str s1, .undef, .undef, .undef, .int .i64 n_1, .int .i64 i_2] ++ List.replicate 47 .undef)
    (List.replicate 53 .none) σ K
set_option maxRecDepth 100000 in
theorem ref21_number_L5_eq {R : Type} (L fu0 : Nat) (s1 : ByteArray) (n_1 : Int) (i_2 : Int) (σ : Heap) (K : AVal → Heap → Option R) :
    ref21_number_L5 L (fu0 + 1) s1 n_1 i_2 σ K =
    bif (decide (i_2 < (s1.size : Int))) then (
      bif ((decide (0 ≤ i_2)) && (decide (i_2 < (s1.size : Int)))) then (
        bif (decide ((IntKind.i64.wrap ((IntKind.i64.wrap ((s1.data.toList.getD i_2.toNat 0).toNat : Int)) - 48)) < 0)) then (
          K (.tuple [.int .i64 0, .bool false]) σ)
        else
        bif (decide ((IntKind.i64.wrap ((IntKind.i64.wrap ((s1.data.toList.getD i_2.toNat 0).toNat : Int)) - 48)) > 9)) then (
          K (.tuple [.int .i64 0, .bool false]) σ)
        else
        bif (decide (n_1 > (IntKind.i64.wrap (Int.tdiv (IntKind.i64.wrap (9223372036854775807 - (IntKind.i64.wrap ((IntKind.i64.wrap ((s1.data.toList.getD i_2.toNat 0).toNat : Int)) - 48)))) 10)))) then (
          K (.tuple [.int .i64 0, .bool false]) σ)
        else
        ref21_number_L5 L fu0 s1 (IntKind.i64.wrap ((IntKind.i64.wrap (10 * n_1)) + (IntKind.i64.wrap ((IntKind.i64.wrap ((s1.data.toList.getD i_2.toNat 0).toNat : Int)) - 48)))) (IntKind.i64.wrap (i_2 + 1)) σ K)
      else none)
    else K (.tuple [.int .i64 n_1, .bool true]) σ := by kernel_rfl
set_option maxRecDepth 100000 in
theorem ref21_number_eq {R : Type} (L : Nat) (s1 : ByteArray) (σ : Heap) (K : AVal → Heap → Option R) :
    callC T known0 L 2 30 [.str s1] σ K =
    bif (s1.toList == (⟨#[]⟩ : ByteArray).toList) then (
      K (.tuple [.int .i64 0, .bool false]) σ)
    else
    bif (decide ((s1.size : Int) > 19)) then (
      K (.tuple [.int .i64 0, .bool false]) σ)
    else
    bif (decide ((s1.size : Int) > 1)) then (
      bif (decide (0 < (s1.size : Int))) then (
        bif (((s1.data.toList.getD 0 0).toNat : Int) == 48) then (
          K (.tuple [.int .i64 0, .bool false]) σ)
        else
        ref21_number_L5 L L s1 0 0 σ K)
      else none)
    else ref21_number_L5 L L s1 0 0 σ K := by kernel_rfl
/-! ref21_pair -/
noncomputable def ref21_pair_L2 {R : Type} (w : C_ref21_pair) (L fu0 : Nat) (s1 : ByteArray) (i_1 : Int) (σ : Heap) (K : AVal → Heap → Option R) : Option R :=
  loopAt T (O_ref21_pair w) L 1 31 Tryd.f31 [1, 0, 1, 0] [] fu0
    ([.str s1] ++ List.replicate 4 .undef ++ [.int .i64 i_1] ++ List.replicate 35 .undef)
    (List.replicate 41 .none) σ K
set_option maxRecDepth 100000 in
theorem ref21_pair_L2_eq {R : Type} (w : C_ref21_pair) (L fu0 : Nat) (s1 : ByteArray) (i_1 : Int) (σ : Heap) (K : AVal → Heap → Option R) :
    ref21_pair_L2 w L (fu0 + 1) s1 i_1 σ K =
    bif (decide (i_1 < (s1.size : Int))) then (
      bif ((decide (0 ≤ i_1)) && (decide (i_1 < (s1.size : Int)))) then (
        bif (((s1.data.toList.getD i_1.toNat 0).toNat : Int) == 47) then (
          bif ((decide (0 ≤ i_1)) && (decide (i_1 ≤ (s1.size : Int)))) then (
            (w.ref21_number (s1.extract 0 i_1.toNat) σ).bind fun q2 =>
            bif (((decide (0 ≤ (IntKind.i64.wrap (i_1 + 1)))) && (decide ((IntKind.i64.wrap (i_1 + 1)) ≤ (s1.size : Int)))) && (decide ((s1.size : Int) ≤ (s1.size : Int)))) then (
              (w.ref21_number (s1.extract (IntKind.i64.wrap (i_1 + 1)).toNat s1.size) q2.2).bind fun q3 =>
              bif q2.1.2 then (
                K (.tuple [.int .i64 q2.1.1, .int .i64 q3.1.1, .bool q3.1.2]) q3.2)
              else
              K (.tuple [.int .i64 q2.1.1, .int .i64 q3.1.1, .bool false]) q3.2)
            else none)
          else none)
        else ref21_pair_L2 w L fu0 s1 (IntKind.i64.wrap (i_1 + 1)) σ K)
      else none)
    else K (.tuple [.int .i64 0, .int .i64 0, .bool false]) σ := by kernel_rfl
set_option maxRecDepth 100000 in
theorem ref21_pair_eq {R : Type} (w : C_ref21_pair) (L : Nat) (s1 : ByteArray) (σ : Heap) (K : AVal → Heap → Option R) :
    callC T (O_ref21_pair w) L 2 31 [.str s1] σ K =
    ref21_pair_L2 w L L s1 0 σ K := by kernel_rfl
end Go.Abs.TD
