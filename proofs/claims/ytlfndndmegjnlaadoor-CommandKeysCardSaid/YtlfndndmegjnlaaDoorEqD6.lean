/-
Lifted functions: what the machine does, one equation for each entry and each loop (printed by lift.py).
-/
import Derived.Test.YtlfndndmegjnlaaDoorSigD
namespace Go.Abs.TD
open Go Go.Abs Go.Proofs
/-! command_Keys_Feed -/
set_option maxRecDepth 100000 in
theorem command_Keys_Feed_eq {R : Type} (w : C_command_Keys_Feed) (L : Nat) (k1 : command_Keys) (c2 : Int) (t3 : Sl) (σ : Heap) (K : AVal → Heap → Option R) :
    callC T (O_command_Keys_Feed w) L 2 16 [.agg [.bool k1.Waits], .int .u8 c2, .slice t3.b t3.o t3.n 2] σ K =
    bif (!k1.Waits) then (
      K (.tuple [.agg [.bool (c2 == 2)], .str (⟨#[]⟩ : ByteArray), .bool (c2 != 2)]) σ)
    else
    bif (c2 == 2) then (
      K (.tuple [.agg [.bool false], .str (⟨#[]⟩ : ByteArray), .bool true]) σ)
    else
    (w.command_Table_Find t3 c2 σ).bind fun q4 =>
    K (.tuple [.agg [.bool false], .str q4.1, .bool false]) q4.2 := by kernel_rfl
/-! law21_CommandKeys -/
noncomputable def law21_CommandKeys_L9 {R : Type} (w : C_law21_CommandKeys) (L fu0 : Nat) (l1 : Sl) (s2 : ByteArray) (t_1 : Sl) (waits_6 : Bool) (x_7 : Int) (k_8 : Bool) (σ : Heap) (K : AVal → Heap → Option R) : Option R :=
  loopAt T (O_law21_CommandKeys w) L 1 7 Tryd.f7 [1, 1, 1, 1, 1, 1, 0, 1, 0] [] fu0
    ([.slice l1.b l1.o l1.n 2, .str s2, .undef, .undef, .undef, .slice t_1.b t_1.o t_1.n 2, .lptr 6 0, .bool waits_6] ++ List.replicate 18 .undef ++ [.int .i64 (s2.size : Int), .int .i64 x_7] ++ List.replicate 64 .undef)
    (List.replicate 6 .none ++ [.cells [.bool k_8]] ++ List.replicate 85 .none) σ K
noncomputable def law21_CommandKeys_J15 {R : Type} (w : C_law21_CommandKeys) (L fu0 : Nat) (l1 : Sl) (s2 : ByteArray) (t_1 : Sl) (waits_6 : Bool) (x_7 : Int) (text_2 : ByteArray) (pass_3 : Bool) (goes_5 : Bool) (k_4 : Bool) (σ : Heap) (K : AVal → Heap → Option R) : Option R :=
  codeAt T (O_law21_CommandKeys w) L 1 7 Tryd.f7 [1, 1, 1, 1, 1, 1, 0, 1, 0, 0, 1, 1, 0, 0, 1, 1, 1, 1, 1] [fu0]
    ([.slice l1.b l1.o l1.n 2, .str s2, .undef, .undef, .undef, .slice t_1.b t_1.o t_1.n 2, .lptr 6 0, .bool waits_6, .int .i64 x_7, .str text_2, .bool pass_3, .str (⟨#[]⟩ : ByteArray), .bool goes_5] ++ List.replicate 13 .undef ++ [.int .i64 (s2.size : Int), .int .i64 x_7] ++ List.replicate 64 .undef)
    (List.replicate 6 .none ++ [.cells [.bool k_4]] ++ List.replicate 85 .none) σ K
noncomputable def law21_CommandKeys_J17 {R : Type} (w : C_law21_CommandKeys) (L fu0 : Nat) (l1 : Sl) (s2 : ByteArray) (t_1 : Sl) (waits_6 : Bool) (x_7 : Int) (text_2 : ByteArray) (pass_3 : Bool) (want_9 : ByteArray) (goes_5 : Bool) (k_4 : Bool) (σ : Heap) (K : AVal → Heap → Option R) : Option R :=
  codeAt T (O_law21_CommandKeys w) L 1 7 Tryd.f7 [1, 1, 1, 1, 1, 1, 0, 1, 0, 0, 1, 1, 0, 0, 1, 1, 1, 1, 1, 1] [fu0]
    ([.slice l1.b l1.o l1.n 2, .str s2, .undef, .undef, .undef, .slice t_1.b t_1.o t_1.n 2, .lptr 6 0, .bool waits_6, .int .i64 x_7, .str text_2, .bool pass_3, .str want_9, .bool goes_5] ++ List.replicate 13 .undef ++ [.int .i64 (s2.size : Int), .int .i64 x_7] ++ List.replicate 64 .undef)
    (List.replicate 6 .none ++ [.cells [.bool k_4]] ++ List.replicate 85 .none) σ K
noncomputable def law21_CommandKeys_J18 {R : Type} (w : C_law21_CommandKeys) (L fu0 : Nat) (l1 : Sl) (s2 : ByteArray) (t_1 : Sl) (waits_10 : Bool) (text_2 : ByteArray) (pass_3 : Bool) (want_9 : ByteArray) (goes_5 : Bool) (x_7 : Int) (k_4 : Bool) (σ : Heap) (K : AVal → Heap → Option R) : Option R :=
  codeAt T (O_law21_CommandKeys w) L 1 7 Tryd.f7 [1, 1, 1, 1, 1, 1, 0, 1, 0, 0, 1, 1, 0, 0, 1, 1, 1, 1, 1, 1, 1] [fu0]
    ([.slice l1.b l1.o l1.n 2, .str s2, .undef, .undef, .undef, .slice t_1.b t_1.o t_1.n 2, .lptr 6 0, .bool waits_10, .undef, .str text_2, .bool pass_3, .str want_9, .bool goes_5] ++ List.replicate 13 .undef ++ [.int .i64 (s2.size : Int), .int .i64 x_7] ++ List.replicate 64 .undef)
    (List.replicate 6 .none ++ [.cells [.bool k_4]] ++ List.replicate 85 .none) σ K
set_option maxRecDepth 100000 in
theorem law21_CommandKeys_L9_eq0 {R : Type} (w : C_law21_CommandKeys) (L fu0 : Nat) (l1 : Sl) (s2 : ByteArray) (t_1 : Sl) (waits_6 : Bool) (x_7 : Int) (k_8 : Bool) (σ : Heap) (K : AVal → Heap → Option R) :
    law21_CommandKeys_L9 w L (fu0 + 1) l1 s2 t_1 waits_6 x_7 k_8 σ K =
    bif (decide (x_7 < (s2.size : Int))) then (
      bif ((decide (0 ≤ x_7)) && (decide (x_7 < (s2.size : Int)))) then (
        (w.command_Keys_Feed ⟨k_8⟩ ((s2.data.toList.getD x_7.toNat 0).toNat : Int) t_1 σ).bind fun q5 =>
        bif (!waits_6) then (
          bif ((decide (0 ≤ x_7)) && (decide (x_7 < (s2.size : Int)))) then (
            bif (((s2.data.toList.getD x_7.toNat 0).toNat : Int) != 2) then (
              joinC (T.join 7 15) q5.2 (law21_CommandKeys_J15 w L fu0 l1 s2 t_1 waits_6 x_7 q5.1.2.1 q5.1.2.2 true q5.1.1.Waits q5.2 K))
            else
            bif waits_6 then (
              bif ((decide (0 ≤ x_7)) && (decide (x_7 < (s2.size : Int)))) then (
                joinC (T.join 7 15) q5.2 (law21_CommandKeys_J15 w L fu0 l1 s2 t_1 waits_6 x_7 q5.1.2.1 q5.1.2.2 (((s2.data.toList.getD x_7.toNat 0).toNat : Int) == 2) q5.1.1.Waits q5.2 K))
              else
              none)
            else joinC (T.join 7 15) q5.2 (law21_CommandKeys_J15 w L fu0 l1 s2 t_1 waits_6 x_7 q5.1.2.1 q5.1.2.2 false q5.1.1.Waits q5.2 K))
          else none)
        else
        bif waits_6 then (
          bif ((decide (0 ≤ x_7)) && (decide (x_7 < (s2.size : Int)))) then (
            joinC (T.join 7 15) q5.2 (law21_CommandKeys_J15 w L fu0 l1 s2 t_1 waits_6 x_7 q5.1.2.1 q5.1.2.2 (((s2.data.toList.getD x_7.toNat 0).toNat : Int) == 2) q5.1.1.Waits q5.2 K))
          else
          none)
        else joinC (T.join 7 15) q5.2 (law21_CommandKeys_J15 w L fu0 l1 s2 t_1 waits_6 x_7 q5.1.2.1 q5.1.2.2 false q5.1.1.Waits q5.2 K))
      else none)
    else K (.bool true) σ := by kernel_rfl
theorem law21_CommandKeys_L9_eq {R : Type} (w : C_law21_CommandKeys) (L fu0 : Nat) (l1 : Sl) (s2 : ByteArray) (t_1 : Sl) (waits_6 : Bool) (x_7 : Int) (k_8 : Bool) (σ : Heap) (K : AVal → Heap → Option R) :
    law21_CommandKeys_L9 w L (fu0 + 1) l1 s2 t_1 waits_6 x_7 k_8 σ K =
    bif (decide (x_7 < (s2.size : Int))) then (
      bif ((decide (0 ≤ x_7)) && (decide (x_7 < (s2.size : Int)))) then (
        (w.command_Keys_Feed ⟨k_8⟩ ((s2.data.toList.getD x_7.toNat 0).toNat : Int) t_1 σ).bind fun q5 =>
        bif (!waits_6) then (
          bif ((decide (0 ≤ x_7)) && (decide (x_7 < (s2.size : Int)))) then (
            bif (((s2.data.toList.getD x_7.toNat 0).toNat : Int) != 2) then (
              law21_CommandKeys_J15 w L fu0 l1 s2 t_1 waits_6 x_7 q5.1.2.1 q5.1.2.2 true q5.1.1.Waits q5.2 K)
            else
            bif waits_6 then (
              bif ((decide (0 ≤ x_7)) && (decide (x_7 < (s2.size : Int)))) then (
                law21_CommandKeys_J15 w L fu0 l1 s2 t_1 waits_6 x_7 q5.1.2.1 q5.1.2.2 (((s2.data.toList.getD x_7.toNat 0).toNat : Int) == 2) q5.1.1.Waits q5.2 K)
              else
              none)
            else law21_CommandKeys_J15 w L fu0 l1 s2 t_1 waits_6 x_7 q5.1.2.1 q5.1.2.2 false q5.1.1.Waits q5.2 K)
          else none)
        else
        bif waits_6 then (
          bif ((decide (0 ≤ x_7)) && (decide (x_7 < (s2.size : Int)))) then (
            law21_CommandKeys_J15 w L fu0 l1 s2 t_1 waits_6 x_7 q5.1.2.1 q5.1.2.2 (((s2.data.toList.getD x_7.toNat 0).toNat : Int) == 2) q5.1.1.Waits q5.2 K)
          else
          none)
        else law21_CommandKeys_J15 w L fu0 l1 s2 t_1 waits_6 x_7 q5.1.2.1 q5.1.2.2 false q5.1.1.Waits q5.2 K)
      else none)
    else K (.bool true) σ := by 
  rw [law21_CommandKeys_L9_eq0]; simp only [joinC_eq]
set_option maxRecDepth 100000 in
theorem law21_CommandKeys_J15_eq0 {R : Type} (w : C_law21_CommandKeys) (L fu0 : Nat) (l1 : Sl) (s2 : ByteArray) (t_1 : Sl) (waits_6 : Bool) (x_7 : Int) (text_2 : ByteArray) (pass_3 : Bool) (goes_5 : Bool) (k_4 : Bool) (σ : Heap) (K : AVal → Heap → Option R) :
    law21_CommandKeys_J15 w L fu0 l1 s2 t_1 waits_6 x_7 text_2 pass_3 goes_5 k_4 σ K =
    bif waits_6 then (
      bif ((decide (0 ≤ x_7)) && (decide (x_7 < (s2.size : Int)))) then (
        bif (((s2.data.toList.getD x_7.toNat 0).toNat : Int) != 2) then (
          bif ((decide (0 ≤ x_7)) && (decide (x_7 < (s2.size : Int)))) then (
            (w.law21_bound l1 ((s2.data.toList.getD x_7.toNat 0).toNat : Int) σ).bind fun q6 =>
            joinC (T.join 7 17) q6.2 (law21_CommandKeys_J17 w L fu0 l1 s2 t_1 waits_6 x_7 text_2 pass_3 q6.1 goes_5 k_4 q6.2 K))
          else none)
        else joinC (T.join 7 17) σ (law21_CommandKeys_J17 w L fu0 l1 s2 t_1 waits_6 x_7 text_2 pass_3 (⟨#[]⟩ : ByteArray) goes_5 k_4 σ K))
      else none)
    else joinC (T.join 7 17) σ (law21_CommandKeys_J17 w L fu0 l1 s2 t_1 waits_6 x_7 text_2 pass_3 (⟨#[]⟩ : ByteArray) goes_5 k_4 σ K) := by kernel_rfl
theorem law21_CommandKeys_J15_eq {R : Type} (w : C_law21_CommandKeys) (L fu0 : Nat) (l1 : Sl) (s2 : ByteArray) (t_1 : Sl) (waits_6 : Bool) (x_7 : Int) (text_2 : ByteArray) (pass_3 : Bool) (goes_5 : Bool) (k_4 : Bool) (σ : Heap) (K : AVal → Heap → Option R) :
    law21_CommandKeys_J15 w L fu0 l1 s2 t_1 waits_6 x_7 text_2 pass_3 goes_5 k_4 σ K =
    bif waits_6 then (
      bif ((decide (0 ≤ x_7)) && (decide (x_7 < (s2.size : Int)))) then (
        bif (((s2.data.toList.getD x_7.toNat 0).toNat : Int) != 2) then (
          bif ((decide (0 ≤ x_7)) && (decide (x_7 < (s2.size : Int)))) then (
            (w.law21_bound l1 ((s2.data.toList.getD x_7.toNat 0).toNat : Int) σ).bind fun q6 =>
            law21_CommandKeys_J17 w L fu0 l1 s2 t_1 waits_6 x_7 text_2 pass_3 q6.1 goes_5 k_4 q6.2 K)
          else none)
        else law21_CommandKeys_J17 w L fu0 l1 s2 t_1 waits_6 x_7 text_2 pass_3 (⟨#[]⟩ : ByteArray) goes_5 k_4 σ K)
      else none)
    else law21_CommandKeys_J17 w L fu0 l1 s2 t_1 waits_6 x_7 text_2 pass_3 (⟨#[]⟩ : ByteArray) goes_5 k_4 σ K := by 
  rw [law21_CommandKeys_J15_eq0]; simp only [joinC_eq]
set_option maxRecDepth 100000 in
theorem law21_CommandKeys_J17_eq0 {R : Type} (w : C_law21_CommandKeys) (L fu0 : Nat) (l1 : Sl) (s2 : ByteArray) (t_1 : Sl) (waits_6 : Bool) (x_7 : Int) (text_2 : ByteArray) (pass_3 : Bool) (want_9 : ByteArray) (goes_5 : Bool) (k_4 : Bool) (σ : Heap) (K : AVal → Heap → Option R) :
    law21_CommandKeys_J17 w L fu0 l1 s2 t_1 waits_6 x_7 text_2 pass_3 want_9 goes_5 k_4 σ K =
    bif (!waits_6) then (
      bif ((decide (0 ≤ x_7)) && (decide (x_7 < (s2.size : Int)))) then (
        joinC (T.join 7 18) σ (law21_CommandKeys_J18 w L fu0 l1 s2 t_1 (((s2.data.toList.getD x_7.toNat 0).toNat : Int) == 2) text_2 pass_3 want_9 goes_5 x_7 k_4 σ K))
      else
      none)
    else joinC (T.join 7 18) σ (law21_CommandKeys_J18 w L fu0 l1 s2 t_1 false text_2 pass_3 want_9 goes_5 x_7 k_4 σ K) := by kernel_rfl
theorem law21_CommandKeys_J17_eq {R : Type} (w : C_law21_CommandKeys) (L fu0 : Nat) (l1 : Sl) (s2 : ByteArray) (t_1 : Sl) (waits_6 : Bool) (x_7 : Int) (text_2 : ByteArray) (pass_3 : Bool) (want_9 : ByteArray) (goes_5 : Bool) (k_4 : Bool) (σ : Heap) (K : AVal → Heap → Option R) :
    law21_CommandKeys_J17 w L fu0 l1 s2 t_1 waits_6 x_7 text_2 pass_3 want_9 goes_5 k_4 σ K =
    bif (!waits_6) then (
      bif ((decide (0 ≤ x_7)) && (decide (x_7 < (s2.size : Int)))) then (
        law21_CommandKeys_J18 w L fu0 l1 s2 t_1 (((s2.data.toList.getD x_7.toNat 0).toNat : Int) == 2) text_2 pass_3 want_9 goes_5 x_7 k_4 σ K)
      else
      none)
    else law21_CommandKeys_J18 w L fu0 l1 s2 t_1 false text_2 pass_3 want_9 goes_5 x_7 k_4 σ K := by 
  rw [law21_CommandKeys_J17_eq0]; simp only [joinC_eq]
set_option maxRecDepth 100000 in
theorem law21_CommandKeys_J18_eq {R : Type} (w : C_law21_CommandKeys) (L fu0 : Nat) (l1 : Sl) (s2 : ByteArray) (t_1 : Sl) (waits_10 : Bool) (text_2 : ByteArray) (pass_3 : Bool) (want_9 : ByteArray) (goes_5 : Bool) (x_7 : Int) (k_4 : Bool) (σ : Heap) (K : AVal → Heap → Option R) :
    law21_CommandKeys_J18 w L fu0 l1 s2 t_1 waits_10 text_2 pass_3 want_9 goes_5 x_7 k_4 σ K =
    bif (!(text_2.toList == want_9.toList)) then (
      K (.bool false) σ)
    else
    bif (!(pass_3 == goes_5)) then (
      K (.bool false) σ)
    else
    bif (!(k_4 == waits_10)) then (
      K (.bool false) σ)
    else
    law21_CommandKeys_L9 w L fu0 l1 s2 t_1 waits_10 (IntKind.i64.wrap (x_7 + 1)) k_4 σ K := by kernel_rfl
set_option maxRecDepth 100000 in
theorem law21_CommandKeys_eq {R : Type} (w : C_law21_CommandKeys) (L : Nat) (l1 : Sl) (s2 : ByteArray) (σ : Heap) (K : AVal → Heap → Option R) :
    callC T (O_law21_CommandKeys w) L 2 7 [.slice l1.b l1.o l1.n 2, .str s2] σ K =
    (w.law21_fit σ).bind fun q3 =>
    bif (!q3.1) then (
      K (.bool false) q3.2)
    else
    bif (decide ((l1.n : Int) > 60)) then (
      K (.bool true) q3.2)
    else
    bif (decide ((s2.size : Int) > 300)) then (
      K (.bool true) q3.2)
    else
    (w.law21_table l1 q3.2).bind fun q4 =>
    law21_CommandKeys_L9 w L L l1 s2 q4.1 false 0 false q4.2 K := by kernel_rfl
end Go.Abs.TD
