/-
Lifted functions: what the machine does, one equation for each entry and each loop (printed by lift.py).
-/
import Derived.Test.YtlfndndmegjnlaaDoorSigD
namespace Go.Abs.TD
open Go Go.Abs Go.Proofs
/-! ref21_Parse -/
noncomputable def ref21_Parse_L2 {R : Type} (w : C_ref21_Parse) (L fu0 : Nat) (s1 : ByteArray) (kind_1 : Int) (σ : Heap) (K : AVal → Heap → Option R) : Option R :=
  loopAt T (O_ref21_Parse w) L 1 10 Tryd.f10 [1, 0, 1, 0] [] fu0
    ([.str s1, .undef, .lptr 2 0, .undef, .int .i64 kind_1] ++ List.replicate 54 .undef)
    ([.none, .none, .cells [.int .i64 0, .int .i64 0, .int .i64 0, .str (⟨#[]⟩ : ByteArray)]] ++ List.replicate 56 .none) σ K
noncomputable def ref21_Parse_J20 {R : Type} (w : C_ref21_Parse) (L : Nat) (σ : Heap) (K : AVal → Heap → Option R) : Option R :=
  codeAt T (O_ref21_Parse w) L 1 10 Tryd.f10 [1, 1] []
    ([.undef, .undef, .lptr 2 0] ++ List.replicate 56 .undef)
    ([.none, .none, .cells [.int .i64 0, .int .i64 0, .int .i64 0, .str (⟨#[]⟩ : ByteArray)]] ++ List.replicate 56 .none) σ K
set_option maxRecDepth 100000 in
theorem ref21_Parse_L2_eq0 {R : Type} (w : C_ref21_Parse) (L fu0 : Nat) (s1 : ByteArray) (kind_1 : Int) (σ : Heap) (K : AVal → Heap → Option R) :
    ref21_Parse_L2 w L (fu0 + 1) s1 kind_1 σ K =
    bif (decide (kind_1 < 18)) then (
      (w.ref21_Word kind_1 σ).bind fun q2 =>
      bif (s1.toList == q2.1.toList) then (
        bif (kind_1 == 0) then (
          bif (kind_1 == 0) then (
            K (.tuple [.agg [.int .i64 kind_1, .int .i64 0, .int .i64 0, .str (⟨#[]⟩ : ByteArray)], .int .i64 0]) q2.2)
          else
          K (.tuple [.agg [.int .i64 0, .int .i64 0, .int .i64 0, .str (⟨#[]⟩ : ByteArray)], .int .i64 1]) q2.2)
        else
        bif (kind_1 == 1) then (
          bif (kind_1 == 1) then (
            K (.tuple [.agg [.int .i64 kind_1, .int .i64 0, .int .i64 0, .str (⟨#[]⟩ : ByteArray)], .int .i64 0]) q2.2)
          else
          K (.tuple [.agg [.int .i64 0, .int .i64 0, .int .i64 0, .str (⟨#[]⟩ : ByteArray)], .int .i64 1]) q2.2)
        else
        bif (kind_1 == 2) then (
          bif (kind_1 == 2) then (
            K (.tuple [.agg [.int .i64 kind_1, .int .i64 0, .int .i64 0, .str (⟨#[]⟩ : ByteArray)], .int .i64 0]) q2.2)
          else
          K (.tuple [.agg [.int .i64 0, .int .i64 0, .int .i64 0, .str (⟨#[]⟩ : ByteArray)], .int .i64 1]) q2.2)
        else
        bif (kind_1 == 8) then (
          bif (kind_1 == 8) then (
            K (.tuple [.agg [.int .i64 kind_1, .int .i64 0, .int .i64 0, .str (⟨#[]⟩ : ByteArray)], .int .i64 0]) q2.2)
          else
          K (.tuple [.agg [.int .i64 0, .int .i64 0, .int .i64 0, .str (⟨#[]⟩ : ByteArray)], .int .i64 1]) q2.2)
        else
        bif (kind_1 == 9) then (
          bif (kind_1 == 9) then (
            K (.tuple [.agg [.int .i64 kind_1, .int .i64 0, .int .i64 0, .str (⟨#[]⟩ : ByteArray)], .int .i64 0]) q2.2)
          else
          K (.tuple [.agg [.int .i64 0, .int .i64 0, .int .i64 0, .str (⟨#[]⟩ : ByteArray)], .int .i64 1]) q2.2)
        else
        bif (kind_1 == 10) then (
          bif (kind_1 == 10) then (
            K (.tuple [.agg [.int .i64 kind_1, .int .i64 0, .int .i64 0, .str (⟨#[]⟩ : ByteArray)], .int .i64 0]) q2.2)
          else
          K (.tuple [.agg [.int .i64 0, .int .i64 0, .int .i64 0, .str (⟨#[]⟩ : ByteArray)], .int .i64 1]) q2.2)
        else
        bif (kind_1 == 11) then (
          bif (kind_1 == 11) then (
            K (.tuple [.agg [.int .i64 kind_1, .int .i64 0, .int .i64 0, .str (⟨#[]⟩ : ByteArray)], .int .i64 0]) q2.2)
          else
          K (.tuple [.agg [.int .i64 0, .int .i64 0, .int .i64 0, .str (⟨#[]⟩ : ByteArray)], .int .i64 1]) q2.2)
        else
        bif (kind_1 == 12) then (
          bif (kind_1 == 12) then (
            K (.tuple [.agg [.int .i64 kind_1, .int .i64 0, .int .i64 0, .str (⟨#[]⟩ : ByteArray)], .int .i64 0]) q2.2)
          else
          K (.tuple [.agg [.int .i64 0, .int .i64 0, .int .i64 0, .str (⟨#[]⟩ : ByteArray)], .int .i64 1]) q2.2)
        else
        bif (kind_1 == 15) then (
          K (.tuple [.agg [.int .i64 kind_1, .int .i64 0, .int .i64 0, .str (⟨#[]⟩ : ByteArray)], .int .i64 0]) q2.2)
        else
        K (.tuple [.agg [.int .i64 0, .int .i64 0, .int .i64 0, .str (⟨#[]⟩ : ByteArray)], .int .i64 1]) q2.2)
      else
      bif (decide ((s1.size : Int) > (q2.1.size : Int))) then (
        bif ((decide (0 ≤ (q2.1.size : Int))) && (decide ((q2.1.size : Int) ≤ (s1.size : Int)))) then (
          bif ((s1.extract 0 q2.1.size).toList == q2.1.toList) then (
            bif ((decide (0 ≤ (q2.1.size : Int))) && (decide ((q2.1.size : Int) < (s1.size : Int)))) then (
              bif (((s1.data.toList.getD q2.1.size 0).toNat : Int) == 32) then (
                bif (((decide (0 ≤ (IntKind.i64.wrap ((q2.1.size : Int) + 1)))) && (decide ((IntKind.i64.wrap ((q2.1.size : Int) + 1)) ≤ (s1.size : Int)))) && (decide ((s1.size : Int) ≤ (s1.size : Int)))) then (
                  (w.ref21_behind kind_1 (s1.extract (IntKind.i64.wrap ((q2.1.size : Int) + 1)).toNat s1.size) q2.2).bind fun q3 =>
                  K (.tuple [.agg [.int .i64 q3.1.1.Kind, .int .i64 q3.1.1.N, .int .i64 q3.1.1.M, .str q3.1.1.Text], .int .i64 q3.1.2]) q3.2)
                else none)
              else ref21_Parse_L2 w L fu0 s1 (IntKind.i64.wrap (kind_1 + 1)) q2.2 K)
            else none)
          else ref21_Parse_L2 w L fu0 s1 (IntKind.i64.wrap (kind_1 + 1)) q2.2 K)
        else none)
      else ref21_Parse_L2 w L fu0 s1 (IntKind.i64.wrap (kind_1 + 1)) q2.2 K)
    else joinC (T.join 10 20) σ (ref21_Parse_J20 w L σ K) := by kernel_rfl
theorem ref21_Parse_L2_eq {R : Type} (w : C_ref21_Parse) (L fu0 : Nat) (s1 : ByteArray) (kind_1 : Int) (σ : Heap) (K : AVal → Heap → Option R) :
    ref21_Parse_L2 w L (fu0 + 1) s1 kind_1 σ K =
    bif (decide (kind_1 < 18)) then (
      (w.ref21_Word kind_1 σ).bind fun q2 =>
      bif (s1.toList == q2.1.toList) then (
        bif (kind_1 == 0) then (
          bif (kind_1 == 0) then (
            K (.tuple [.agg [.int .i64 kind_1, .int .i64 0, .int .i64 0, .str (⟨#[]⟩ : ByteArray)], .int .i64 0]) q2.2)
          else
          K (.tuple [.agg [.int .i64 0, .int .i64 0, .int .i64 0, .str (⟨#[]⟩ : ByteArray)], .int .i64 1]) q2.2)
        else
        bif (kind_1 == 1) then (
          bif (kind_1 == 1) then (
            K (.tuple [.agg [.int .i64 kind_1, .int .i64 0, .int .i64 0, .str (⟨#[]⟩ : ByteArray)], .int .i64 0]) q2.2)
          else
          K (.tuple [.agg [.int .i64 0, .int .i64 0, .int .i64 0, .str (⟨#[]⟩ : ByteArray)], .int .i64 1]) q2.2)
        else
        bif (kind_1 == 2) then (
          bif (kind_1 == 2) then (
            K (.tuple [.agg [.int .i64 kind_1, .int .i64 0, .int .i64 0, .str (⟨#[]⟩ : ByteArray)], .int .i64 0]) q2.2)
          else
          K (.tuple [.agg [.int .i64 0, .int .i64 0, .int .i64 0, .str (⟨#[]⟩ : ByteArray)], .int .i64 1]) q2.2)
        else
        bif (kind_1 == 8) then (
          bif (kind_1 == 8) then (
            K (.tuple [.agg [.int .i64 kind_1, .int .i64 0, .int .i64 0, .str (⟨#[]⟩ : ByteArray)], .int .i64 0]) q2.2)
          else
          K (.tuple [.agg [.int .i64 0, .int .i64 0, .int .i64 0, .str (⟨#[]⟩ : ByteArray)], .int .i64 1]) q2.2)
        else
        bif (kind_1 == 9) then (
          bif (kind_1 == 9) then (
            K (.tuple [.agg [.int .i64 kind_1, .int .i64 0, .int .i64 0, .str (⟨#[]⟩ : ByteArray)], .int .i64 0]) q2.2)
          else
          K (.tuple [.agg [.int .i64 0, .int .i64 0, .int .i64 0, .str (⟨#[]⟩ : ByteArray)], .int .i64 1]) q2.2)
        else
        bif (kind_1 == 10) then (
          bif (kind_1 == 10) then (
            K (.tuple [.agg [.int .i64 kind_1, .int .i64 0, .int .i64 0, .str (⟨#[]⟩ : ByteArray)], .int .i64 0]) q2.2)
          else
          K (.tuple [.agg [.int .i64 0, .int .i64 0, .int .i64 0, .str (⟨#[]⟩ : ByteArray)], .int .i64 1]) q2.2)
        else
        bif (kind_1 == 11) then (
          bif (kind_1 == 11) then (
            K (.tuple [.agg [.int .i64 kind_1, .int .i64 0, .int .i64 0, .str (⟨#[]⟩ : ByteArray)], .int .i64 0]) q2.2)
          else
          K (.tuple [.agg [.int .i64 0, .int .i64 0, .int .i64 0, .str (⟨#[]⟩ : ByteArray)], .int .i64 1]) q2.2)
        else
        bif (kind_1 == 12) then (
          bif (kind_1 == 12) then (
            K (.tuple [.agg [.int .i64 kind_1, .int .i64 0, .int .i64 0, .str (⟨#[]⟩ : ByteArray)], .int .i64 0]) q2.2)
          else
          K (.tuple [.agg [.int .i64 0, .int .i64 0, .int .i64 0, .str (⟨#[]⟩ : ByteArray)], .int .i64 1]) q2.2)
        else
        bif (kind_1 == 15) then (
          K (.tuple [.agg [.int .i64 kind_1, .int .i64 0, .int .i64 0, .str (⟨#[]⟩ : ByteArray)], .int .i64 0]) q2.2)
        else
        K (.tuple [.agg [.int .i64 0, .int .i64 0, .int .i64 0, .str (⟨#[]⟩ : ByteArray)], .int .i64 1]) q2.2)
      else
      bif (decide ((s1.size : Int) > (q2.1.size : Int))) then (
        bif ((decide (0 ≤ (q2.1.size : Int))) && (decide ((q2.1.size : Int) ≤ (s1.size : Int)))) then (
          bif ((s1.extract 0 q2.1.size).toList == q2.1.toList) then (
            bif ((decide (0 ≤ (q2.1.size : Int))) && (decide ((q2.1.size : Int) < (s1.size : Int)))) then (
              bif (((s1.data.toList.getD q2.1.size 0).toNat : Int) == 32) then (
                bif (((decide (0 ≤ (IntKind.i64.wrap ((q2.1.size : Int) + 1)))) && (decide ((IntKind.i64.wrap ((q2.1.size : Int) + 1)) ≤ (s1.size : Int)))) && (decide ((s1.size : Int) ≤ (s1.size : Int)))) then (
                  (w.ref21_behind kind_1 (s1.extract (IntKind.i64.wrap ((q2.1.size : Int) + 1)).toNat s1.size) q2.2).bind fun q3 =>
                  K (.tuple [.agg [.int .i64 q3.1.1.Kind, .int .i64 q3.1.1.N, .int .i64 q3.1.1.M, .str q3.1.1.Text], .int .i64 q3.1.2]) q3.2)
                else none)
              else ref21_Parse_L2 w L fu0 s1 (IntKind.i64.wrap (kind_1 + 1)) q2.2 K)
            else none)
          else ref21_Parse_L2 w L fu0 s1 (IntKind.i64.wrap (kind_1 + 1)) q2.2 K)
        else none)
      else ref21_Parse_L2 w L fu0 s1 (IntKind.i64.wrap (kind_1 + 1)) q2.2 K)
    else ref21_Parse_J20 w L σ K := by 
  rw [ref21_Parse_L2_eq0]; simp only [joinC_eq]
set_option maxRecDepth 100000 in
theorem ref21_Parse_J20_eq {R : Type} (w : C_ref21_Parse) (L : Nat) (σ : Heap) (K : AVal → Heap → Option R) :
    ref21_Parse_J20 w L σ K =
    K (.tuple [.agg [.int .i64 0, .int .i64 0, .int .i64 0, .str (⟨#[]⟩ : ByteArray)], .int .i64 1]) σ := by kernel_rfl
set_option maxRecDepth 100000 in
theorem ref21_Parse_eq {R : Type} (w : C_ref21_Parse) (L : Nat) (s1 : ByteArray) (σ : Heap) (K : AVal → Heap → Option R) :
    callC T (O_ref21_Parse w) L 2 10 [.str s1] σ K =
    ref21_Parse_L2 w L L s1 0 σ K := by kernel_rfl
/-! law21_same -/
set_option maxRecDepth 100000 in
theorem law21_same_eq {R : Type} (L : Nat) (c1 : command_Command) (d2 : ref21_Cmd) (σ : Heap) (K : AVal → Heap → Option R) :
    callC T known0 L 2 11 [.agg [.int .i64 c1.Kind, .int .i64 c1.N, .int .i64 c1.M, .str c1.Text], .agg [.int .i64 d2.Kind, .int .i64 d2.N, .int .i64 d2.M, .str d2.Text]] σ K =
    bif (c1.Kind == d2.Kind) then (
      bif (c1.N == d2.N) then (
        bif (c1.M == d2.M) then (
          K (.bool (c1.Text.toList == d2.Text.toList)) σ)
        else
        K (.bool false) σ)
      else K (.bool false) σ)
    else K (.bool false) σ := by kernel_rfl
/-! law21_CommandParses -/
set_option maxRecDepth 100000 in
theorem law21_CommandParses_eq {R : Type} (w : C_law21_CommandParses) (L : Nat) (s1 : ByteArray) (σ : Heap) (K : AVal → Heap → Option R) :
    callC T (O_law21_CommandParses w) L 2 3 [.str s1] σ K =
    (w.law21_fit σ).bind fun q2 =>
    bif (!q2.1) then (
      K (.bool false) q2.2)
    else
    bif (decide ((s1.size : Int) > 300)) then (
      K (.bool true) q2.2)
    else
    (w.command_Parse s1 q2.2).bind fun q3 =>
    (w.ref21_Parse s1 q3.2).bind fun q4 =>
    bif (q3.1.2 == q4.1.2) then (
      (w.law21_same q3.1.1 q4.1.1 q4.2).bind fun q5 =>
      K (.bool q5.1) q5.2)
    else K (.bool false) q4.2 := by kernel_rfl
/-! command_Table_Bind -/
noncomputable def command_Table_Bind_L4 {R : Type} (L fu0 : Nat) (key2 : Int) (text3 : ByteArray) (out_1 : Sl) (put_2 : Bool) (t1 : Sl) (x_3 : Int) (σ : Heap) (K : AVal → Heap → Option R) : Option R :=
  loopAt T known0 L 1 22 Tryd.f22 [1, 1, 1, 0, 1, 0] [] fu0
    ([.undef, .int .u8 key2, .str text3] ++ List.replicate 4 .undef ++ [.slice out_1.b out_1.o out_1.n 2, .bool put_2] ++ List.replicate 4 .undef ++ [.slice t1.b t1.o t1.n 2, .int .i64 (t1.n : Int), .int .i64 x_3] ++ List.replicate 33 .undef)
    (List.replicate 49 .none) σ K
set_option maxRecDepth 100000 in
theorem command_Table_Bind_L4_eq {R : Type} (L fu0 : Nat) (key2 : Int) (text3 : ByteArray) (out_1 : Sl) (put_2 : Bool) (t1 : Sl) (x_3 : Int) (σ : Heap) (K : AVal → Heap → Option R) :
    command_Table_Bind_L4 L (fu0 + 1) key2 text3 out_1 put_2 t1 x_3 σ K =
    bif (decide (x_3 < (t1.n : Int))) then (
      bif ((decide (0 ≤ x_3)) && (decide (x_3 < (t1.n : Int)))) then (
        (t1.b).bind fun b4 =>
        (int? (Heap.cell? σ b4 (t1.o + x_3.toNat * 2)) .u8).bind fun x5 =>
        (str? (Heap.cell? σ b4 ((t1.o + x_3.toNat * 2) + 1))).bind fun x6 =>
        bif put_2 then (
          bif (decide (x5 ≥ key2)) then (
            (Heap.append σ out_1.b out_1.o out_1.n 2 24 [.int .u8 key2, .str text3] 1).bind fun q7 =>
            bif (x5 != key2) then (
              (Heap.append q7.2 q7.1.1 q7.1.2.1 q7.1.2.2 2 24 [.int .u8 x5, .str x6] 1).bind fun q8 =>
              command_Table_Bind_L4 L fu0 key2 text3 ⟨q8.1.1, q8.1.2.1, q8.1.2.2⟩ false t1 (IntKind.i64.wrap (x_3 + 1)) q8.2 K)
            else command_Table_Bind_L4 L fu0 key2 text3 ⟨q7.1.1, q7.1.2.1, q7.1.2.2⟩ false t1 (IntKind.i64.wrap (x_3 + 1)) q7.2 K)
          else
          bif (x5 != key2) then (
            (Heap.append σ out_1.b out_1.o out_1.n 2 24 [.int .u8 x5, .str x6] 1).bind fun q9 =>
            command_Table_Bind_L4 L fu0 key2 text3 ⟨q9.1.1, q9.1.2.1, q9.1.2.2⟩ put_2 t1 (IntKind.i64.wrap (x_3 + 1)) q9.2 K)
          else command_Table_Bind_L4 L fu0 key2 text3 out_1 put_2 t1 (IntKind.i64.wrap (x_3 + 1)) σ K)
        else
        bif (x5 != key2) then (
          (Heap.append σ out_1.b out_1.o out_1.n 2 24 [.int .u8 x5, .str x6] 1).bind fun q10 =>
          command_Table_Bind_L4 L fu0 key2 text3 ⟨q10.1.1, q10.1.2.1, q10.1.2.2⟩ put_2 t1 (IntKind.i64.wrap (x_3 + 1)) q10.2 K)
        else command_Table_Bind_L4 L fu0 key2 text3 out_1 put_2 t1 (IntKind.i64.wrap (x_3 + 1)) σ K)
      else none)
    else
    bif put_2 then (
      (Heap.append σ out_1.b out_1.o out_1.n 2 24 [.int .u8 key2, .str text3] 1).bind fun q11 =>
      K (.slice q11.1.1 q11.1.2.1 q11.1.2.2 2) q11.2)
    else K (.slice out_1.b out_1.o out_1.n 2) σ := by kernel_rfl
set_option maxRecDepth 100000 in
theorem command_Table_Bind_eq {R : Type} (L : Nat) (t1 : Sl) (key2 : Int) (text3 : ByteArray) (σ : Heap) (K : AVal → Heap → Option R) :
    callC T known0 L 2 22 [.slice t1.b t1.o t1.n 2, .int .u8 key2, .str text3] σ K =
    command_Table_Bind_L4 L L key2 text3 ⟨none, 0, 0⟩ (!(text3.toList == (⟨#[]⟩ : ByteArray).toList)) t1 0 σ K := by kernel_rfl
/-! law21_table -/
noncomputable def law21_table_L3 {R : Type} (w : C_law21_table) (L fu0 : Nat) (t_1 : Sl) (l1 : Sl) (x_2 : Int) (σ : Heap) (K : AVal → Heap → Option R) : Option R :=
  loopAt T (O_law21_table w) L 1 12 Tryd.f12 [1, 1, 0, 1, 0] [] fu0
    ([.undef, .undef, .undef, .slice t_1.b t_1.o t_1.n 2, .undef, .undef, .undef, .slice l1.b l1.o l1.n 2, .int .i64 (l1.n : Int), .int .i64 x_2] ++ List.replicate 11 .undef)
    (List.replicate 21 .none) σ K
set_option maxRecDepth 100000 in
theorem law21_table_L3_eq {R : Type} (w : C_law21_table) (L fu0 : Nat) (t_1 : Sl) (l1 : Sl) (x_2 : Int) (σ : Heap) (K : AVal → Heap → Option R) :
    law21_table_L3 w L (fu0 + 1) t_1 l1 x_2 σ K =
    bif (decide (x_2 < (l1.n : Int))) then (
      bif ((decide (0 ≤ x_2)) && (decide (x_2 < (l1.n : Int)))) then (
        (l1.b).bind fun b3 =>
        (int? (Heap.cell? σ b3 (l1.o + x_2.toNat * 2)) .u8).bind fun x4 =>
        (str? (Heap.cell? σ b3 ((l1.o + x_2.toNat * 2) + 1))).bind fun x5 =>
        (w.command_Table_Bind t_1 x4 x5 σ).bind fun q6 =>
        law21_table_L3 w L fu0 q6.1 l1 (IntKind.i64.wrap (x_2 + 1)) q6.2 K)
      else none)
    else K (.slice t_1.b t_1.o t_1.n 2) σ := by kernel_rfl
set_option maxRecDepth 100000 in
theorem law21_table_eq {R : Type} (w : C_law21_table) (L : Nat) (l1 : Sl) (σ : Heap) (K : AVal → Heap → Option R) :
    callC T (O_law21_table w) L 2 12 [.slice l1.b l1.o l1.n 2] σ K =
    (w.command_Standard σ).bind fun q2 =>
    law21_table_L3 w L L q2.1 l1 0 q2.2 K := by kernel_rfl
/-! ref21_Standard -/
set_option maxRecDepth 100000 in
theorem ref21_Standard_eq {R : Type} (L : Nat) (key1 : Int) (σ : Heap) (K : AVal → Heap → Option R) :
    callC T known0 L 2 23 [.int .u8 key1] σ K =
    bif (key1 == 37) then (
      K (.str (⟨#[115, 112, 108, 105, 116]⟩ : ByteArray)) σ)
    else
    bif (key1 == 34) then (
      K (.str (⟨#[102, 108, 97, 116]⟩ : ByteArray)) σ)
    else
    bif (key1 == 120) then (
      K (.str (⟨#[107, 105, 108, 108]⟩ : ByteArray)) σ)
    else
    bif (key1 == 109) then (
      K (.str (⟨#[109, 97, 114, 107, 32, 107, 101, 121]⟩ : ByteArray)) σ)
    else
    bif (key1 == 114) then (
      K (.str (⟨#[114, 101, 119, 105, 110, 100, 32, 48]⟩ : ByteArray)) σ)
    else
    bif (key1 == 112) then (
      K (.str (⟨#[112, 108, 97, 121, 32, 49, 47, 49]⟩ : ByteArray)) σ)
    else
    bif (key1 == 32) then (
      K (.str (⟨#[112, 97, 117, 115, 101]⟩ : ByteArray)) σ)
    else
    bif (key1 == 46) then (
      K (.str (⟨#[115, 116, 101, 112]⟩ : ByteArray)) σ)
    else
    bif (key1 == 108) then (
      K (.str (⟨#[108, 105, 118, 101]⟩ : ByteArray)) σ)
    else
    bif (decide (key1 ≥ 48)) then (
      bif (decide (key1 ≤ 57)) then (
        alloc σ [.int .u8 key1] fun b2 σ3 =>
        (Heap.read σ3 (some b2) 0 1 1).bind fun cs4 =>
        (bytesOf cs4).bind fun bs5 =>
        if (⟨#[102, 111, 99, 117, 115, 32]⟩ : ByteArray).size + (⟨bs5.toArray⟩ : ByteArray).size ≤ 9223372036854775807 then (
          K (.str ((⟨#[102, 111, 99, 117, 115, 32]⟩ : ByteArray) ++ (⟨bs5.toArray⟩ : ByteArray))) σ3)
        else (
          none))
      else K (.str (⟨#[]⟩ : ByteArray)) σ)
    else K (.str (⟨#[]⟩ : ByteArray)) σ := by kernel_rfl
/-! law21_bound -/
noncomputable def law21_bound_L2 {R : Type} (w : C_law21_bound) (L fu0 : Nat) (l1 : Sl) (key2 : Int) (i_1 : Int) (σ : Heap) (K : AVal → Heap → Option R) : Option R :=
  loopAt T (O_law21_bound w) L 1 13 Tryd.f13 [1, 0, 1, 0] [] fu0
    ([.slice l1.b l1.o l1.n 2, .int .u8 key2, .undef, .undef, .undef, .int .i64 i_1] ++ List.replicate 21 .undef)
    (List.replicate 27 .none) σ K
set_option maxRecDepth 100000 in
theorem law21_bound_L2_eq {R : Type} (w : C_law21_bound) (L fu0 : Nat) (l1 : Sl) (key2 : Int) (i_1 : Int) (σ : Heap) (K : AVal → Heap → Option R) :
    law21_bound_L2 w L (fu0 + 1) l1 key2 i_1 σ K =
    bif (decide (i_1 ≥ 0)) then (
      bif ((decide (0 ≤ i_1)) && (decide (i_1 < (l1.n : Int)))) then (
        (l1.b).bind fun b3 =>
        (int? (Heap.cell? σ b3 (l1.o + i_1.toNat * 2)) .u8).bind fun x4 =>
        bif (x4 == key2) then (
          bif ((decide (0 ≤ i_1)) && (decide (i_1 < (l1.n : Int)))) then (
            (l1.b).bind fun b5 =>
            (str? (Heap.cell? σ b5 ((l1.o + i_1.toNat * 2) + 1))).bind fun x6 =>
            K (.str x6) σ)
          else none)
        else law21_bound_L2 w L fu0 l1 key2 (IntKind.i64.wrap (i_1 - 1)) σ K)
      else none)
    else
    (w.ref21_Standard key2 σ).bind fun q7 =>
    K (.str q7.1) q7.2 := by kernel_rfl
set_option maxRecDepth 100000 in
theorem law21_bound_eq {R : Type} (w : C_law21_bound) (L : Nat) (l1 : Sl) (key2 : Int) (σ : Heap) (K : AVal → Heap → Option R) :
    callC T (O_law21_bound w) L 2 13 [.slice l1.b l1.o l1.n 2, .int .u8 key2] σ K =
    law21_bound_L2 w L L l1 key2 (IntKind.i64.wrap ((l1.n : Int) - 1)) σ K := by kernel_rfl
/-! law21_CommandTables -/
noncomputable def law21_CommandTables_L7 {R : Type} (w : C_law21_CommandTables) (L fu0 : Nat) (l1 : Sl) (key2 : Int) (t_1 : Sl) (x_2 : Sl) (x_3 : Int) (x_4 : Int) (σ : Heap) (K : AVal → Heap → Option R) : Option R :=
  loopAt T (O_law21_CommandTables w) L 1 4 Tryd.f4 [1, 1, 1, 1, 0, 1, 0] [] fu0
    ([.slice l1.b l1.o l1.n 2, .int .u8 key2, .undef, .undef, .undef, .slice t_1.b t_1.o t_1.n 2] ++ List.replicate 9 .undef ++ [.slice x_2.b x_2.o x_2.n 2, .int .i64 x_3, .int .i64 x_4] ++ List.replicate 39 .undef)
    (List.replicate 57 .none) σ K
set_option maxRecDepth 100000 in
theorem law21_CommandTables_L7_eq {R : Type} (w : C_law21_CommandTables) (L fu0 : Nat) (l1 : Sl) (key2 : Int) (t_1 : Sl) (x_2 : Sl) (x_3 : Int) (x_4 : Int) (σ : Heap) (K : AVal → Heap → Option R) :
    law21_CommandTables_L7 w L (fu0 + 1) l1 key2 t_1 x_2 x_3 x_4 σ K =
    bif (decide (x_4 < x_3)) then (
      bif ((decide (0 ≤ x_4)) && (decide (x_4 < (x_2.n : Int)))) then (
        (x_2.b).bind fun b5 =>
        (int? (Heap.cell? σ b5 (x_2.o + x_4.toNat * 2)) .u8).bind fun x6 =>
        (str? (Heap.cell? σ b5 ((x_2.o + x_4.toNat * 2) + 1))).bind fun x7 =>
        bif (x7.toList == (⟨#[]⟩ : ByteArray).toList) then (
          K (.bool false) σ)
        else
        bif (decide (x_4 > 0)) then (
          bif ((decide (0 ≤ (IntKind.i64.wrap (x_4 - 1)))) && (decide ((IntKind.i64.wrap (x_4 - 1)) < (t_1.n : Int)))) then (
            (t_1.b).bind fun b8 =>
            (int? (Heap.cell? σ b8 (t_1.o + ((IntKind.i64.wrap (x_4 - 1)).toNat) * 2)) .u8).bind fun x9 =>
            bif (decide (x9 ≥ x6)) then (
              K (.bool false) σ)
            else
            (w.law21_bound l1 x6 (Heap.frz σ)).bind fun q10 =>
            bif (!(x7.toList == q10.1.toList)) then (
              K (.bool false) (Heap.back σ q10.2))
            else
            law21_CommandTables_L7 w L fu0 l1 key2 t_1 x_2 x_3 (IntKind.i64.wrap (x_4 + 1)) (Heap.back σ q10.2) K)
          else none)
        else
        (w.law21_bound l1 x6 (Heap.frz σ)).bind fun q11 =>
        bif (!(x7.toList == q11.1.toList)) then (
          K (.bool false) (Heap.back σ q11.2))
        else
        law21_CommandTables_L7 w L fu0 l1 key2 t_1 x_2 x_3 (IntKind.i64.wrap (x_4 + 1)) (Heap.back σ q11.2) K)
      else none)
    else
    (w.command_Table_Find t_1 key2 σ).bind fun q12 =>
    (w.law21_bound l1 key2 q12.2).bind fun q13 =>
    K (.bool (q12.1.toList == q13.1.toList)) q13.2 := by kernel_rfl
set_option maxRecDepth 100000 in
theorem law21_CommandTables_eq {R : Type} (w : C_law21_CommandTables) (L : Nat) (l1 : Sl) (key2 : Int) (σ : Heap) (K : AVal → Heap → Option R) :
    callC T (O_law21_CommandTables w) L 2 4 [.slice l1.b l1.o l1.n 2, .int .u8 key2] σ K =
    (w.law21_fit σ).bind fun q3 =>
    bif (!q3.1) then (
      K (.bool false) q3.2)
    else
    bif (decide ((l1.n : Int) > 60)) then (
      K (.bool true) q3.2)
    else
    (w.law21_table l1 q3.2).bind fun q4 =>
    law21_CommandTables_L7 w L L l1 key2 q4.1 q4.1 (q4.1.n : Int) 0 q4.2 K := by kernel_rfl
end Go.Abs.TD
