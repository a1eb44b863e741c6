/-
Lifted functions: what the machine does, one equation for each entry and each loop (printed by lift.py).
-/
import Derived.Test.YtnoplfndpemmpaaGreatDoorSigE
namespace Go.Abs.TE
open Go Go.Abs Go.Proofs
/-! ref12_Tame -/
noncomputable def ref12_Tame_L4 {R : Type} (L fu0 : Nat) (l1 : Sl) (out_1 : Sl) (t_2 : Int) (i_3 : Int) (σ : Heap) (K : AVal → Heap → Option R) : Option R :=
  loopAt T known0 L 1 43 Tryz.f43 [1, 1, 1, 0, 1, 0] [] fu0
    ([.slice l1.b l1.o l1.n 5, .undef, .undef, .slice out_1.b out_1.o out_1.n 5, .int .i64 t_2, .int .i64 i_3] ++ List.replicate 52 .undef)
    (List.replicate 58 .none) σ K
set_option maxRecDepth 100000 in
theorem ref12_Tame_L4_eq {R : Type} (L fu0 : Nat) (l1 : Sl) (out_1 : Sl) (t_2 : Int) (i_3 : Int) (σ : Heap) (K : AVal → Heap → Option R) :
    ref12_Tame_L4 L (fu0 + 1) l1 out_1 t_2 i_3 σ K =
    bif (decide (i_3 < (l1.n : Int))) then (
      bif ((decide (0 ≤ i_3)) && (decide (i_3 < (l1.n : Int)))) then (
        (l1.b).bind fun b2 =>
        (int? (Heap.cell? σ b2 (l1.o + i_3.toNat * 5)) .i64).bind fun x3 =>
        (int? (Heap.cell? σ b2 ((l1.o + i_3.toNat * 5) + 1)) .i64).bind fun x4 =>
        (str? (Heap.cell? σ b2 ((l1.o + i_3.toNat * 5) + 2))).bind fun x5 =>
        (int? (Heap.cell? σ b2 ((l1.o + i_3.toNat * 5) + 3)) .i64).bind fun x6 =>
        (int? (Heap.cell? σ b2 ((l1.o + i_3.toNat * 5) + 4)) .i64).bind fun x7 =>
        bif (decide ((x5.size : Int) > 400)) then (
          bif (decide (400 ≤ (x5.size : Int))) then (
            bif ((IntKind.i64.wrap (BitVec.ofInt IntKind.i64.bits x4 &&& BitVec.ofInt IntKind.i64.bits 3).toNat) == 2) then (
              (Heap.append σ out_1.b out_1.o out_1.n 5 48 [.int .i64 (IntKind.i64.wrap (t_2 + (IntKind.i64.wrap (BitVec.ofInt IntKind.i64.bits x3 &&& BitVec.ofInt IntKind.i64.bits 65535).toNat))), .int .i64 (IntKind.i64.wrap (BitVec.ofInt IntKind.i64.bits x4 &&& BitVec.ofInt IntKind.i64.bits 3).toNat), .str (⟨#[]⟩ : ByteArray), .int .i64 (IntKind.i64.wrap ((IntKind.i64.wrap (BitVec.ofInt IntKind.i64.bits x6 &&& BitVec.ofInt IntKind.i64.bits 127).toNat) + 1)), .int .i64 (IntKind.i64.wrap ((IntKind.i64.wrap (BitVec.ofInt IntKind.i64.bits x7 &&& BitVec.ofInt IntKind.i64.bits 127).toNat) + 1))] 1).bind fun q8 =>
              ref12_Tame_L4 L fu0 l1 ⟨q8.1.1, q8.1.2.1, q8.1.2.2⟩ (IntKind.i64.wrap (t_2 + (IntKind.i64.wrap (BitVec.ofInt IntKind.i64.bits x3 &&& BitVec.ofInt IntKind.i64.bits 65535).toNat))) (IntKind.i64.wrap (i_3 + 1)) q8.2 K)
            else
            (Heap.append σ out_1.b out_1.o out_1.n 5 48 [.int .i64 (IntKind.i64.wrap (t_2 + (IntKind.i64.wrap (BitVec.ofInt IntKind.i64.bits x3 &&& BitVec.ofInt IntKind.i64.bits 65535).toNat))), .int .i64 (IntKind.i64.wrap (BitVec.ofInt IntKind.i64.bits x4 &&& BitVec.ofInt IntKind.i64.bits 3).toNat), .str (x5.extract 0 400), .int .i64 0, .int .i64 0] 1).bind fun q9 =>
            ref12_Tame_L4 L fu0 l1 ⟨q9.1.1, q9.1.2.1, q9.1.2.2⟩ (IntKind.i64.wrap (t_2 + (IntKind.i64.wrap (BitVec.ofInt IntKind.i64.bits x3 &&& BitVec.ofInt IntKind.i64.bits 65535).toNat))) (IntKind.i64.wrap (i_3 + 1)) q9.2 K)
          else none)
        else
        bif ((IntKind.i64.wrap (BitVec.ofInt IntKind.i64.bits x4 &&& BitVec.ofInt IntKind.i64.bits 3).toNat) == 2) then (
          (Heap.append σ out_1.b out_1.o out_1.n 5 48 [.int .i64 (IntKind.i64.wrap (t_2 + (IntKind.i64.wrap (BitVec.ofInt IntKind.i64.bits x3 &&& BitVec.ofInt IntKind.i64.bits 65535).toNat))), .int .i64 (IntKind.i64.wrap (BitVec.ofInt IntKind.i64.bits x4 &&& BitVec.ofInt IntKind.i64.bits 3).toNat), .str (⟨#[]⟩ : ByteArray), .int .i64 (IntKind.i64.wrap ((IntKind.i64.wrap (BitVec.ofInt IntKind.i64.bits x6 &&& BitVec.ofInt IntKind.i64.bits 127).toNat) + 1)), .int .i64 (IntKind.i64.wrap ((IntKind.i64.wrap (BitVec.ofInt IntKind.i64.bits x7 &&& BitVec.ofInt IntKind.i64.bits 127).toNat) + 1))] 1).bind fun q10 =>
          ref12_Tame_L4 L fu0 l1 ⟨q10.1.1, q10.1.2.1, q10.1.2.2⟩ (IntKind.i64.wrap (t_2 + (IntKind.i64.wrap (BitVec.ofInt IntKind.i64.bits x3 &&& BitVec.ofInt IntKind.i64.bits 65535).toNat))) (IntKind.i64.wrap (i_3 + 1)) q10.2 K)
        else
        (Heap.append σ out_1.b out_1.o out_1.n 5 48 [.int .i64 (IntKind.i64.wrap (t_2 + (IntKind.i64.wrap (BitVec.ofInt IntKind.i64.bits x3 &&& BitVec.ofInt IntKind.i64.bits 65535).toNat))), .int .i64 (IntKind.i64.wrap (BitVec.ofInt IntKind.i64.bits x4 &&& BitVec.ofInt IntKind.i64.bits 3).toNat), .str x5, .int .i64 0, .int .i64 0] 1).bind fun q11 =>
        ref12_Tame_L4 L fu0 l1 ⟨q11.1.1, q11.1.2.1, q11.1.2.2⟩ (IntKind.i64.wrap (t_2 + (IntKind.i64.wrap (BitVec.ofInt IntKind.i64.bits x3 &&& BitVec.ofInt IntKind.i64.bits 65535).toNat))) (IntKind.i64.wrap (i_3 + 1)) q11.2 K)
      else none)
    else K (.slice out_1.b out_1.o out_1.n 5) σ := by kernel_rfl
set_option maxRecDepth 100000 in
theorem ref12_Tame_eq {R : Type} (L : Nat) (l1 : Sl) (σ : Heap) (K : AVal → Heap → Option R) :
    callC T known0 L 2 43 [.slice l1.b l1.o l1.n 5] σ K =
    ref12_Tame_L4 L L l1 ⟨none, 0, 0⟩ 0 0 σ K := by kernel_rfl
/-! law13_Plan_Tame -/
set_option maxRecDepth 100000 in
theorem law13_Plan_Tame_eq {R : Type} (w : C_law13_Plan_Tame) (L : Nat) (p1 : law13_Plan) (σ : Heap) (K : AVal → Heap → Option R) :
    callC T (O_law13_Plan_Tame w) L 2 21 [.agg [.int .i64 p1.Size.i0, .int .i64 p1.Size.i1, .slice p1.Events.b p1.Events.o p1.Events.n 5, .slice p1.Marks.b p1.Marks.o p1.Marks.n 1]] σ K =
    (w.ref12_Tame p1.Events σ).bind fun q2 =>
    K (.slice q2.1.b q2.1.o q2.1.n 5) q2.2 := by kernel_rfl
/-! law26_words -/
noncomputable def law26_words_L3 {R : Type} (w : C_law26_words) (L fu0 : Nat) (s_1 : ByteArray) (l1 : Sl) (x_2 : Int) (σ : Heap) (K : AVal → Heap → Option R) : Option R :=
  loopAt T (O_law26_words w) L 1 40 Tryz.f40 [1, 1, 0, 1, 0] [] fu0
    ([.undef, .undef, .undef, .str s_1, .undef, .undef, .slice l1.b l1.o l1.n 1, .int .i64 (l1.n : Int), .int .i64 x_2] ++ List.replicate 10 .undef)
    (List.replicate 19 .none) σ K
set_option maxRecDepth 100000 in
theorem law26_words_L3_eq {R : Type} (w : C_law26_words) (L fu0 : Nat) (s_1 : ByteArray) (l1 : Sl) (x_2 : Int) (σ : Heap) (K : AVal → Heap → Option R) :
    law26_words_L3 w L (fu0 + 1) s_1 l1 x_2 σ K =
    bif (decide (x_2 < (l1.n : Int))) then (
      bif ((decide (0 ≤ x_2)) && (decide (x_2 < (l1.n : Int)))) then (
        (l1.b).bind fun b2 =>
        (int? (Heap.cell? σ b2 (l1.o + x_2.toNat * 1)) .i64).bind fun x3 =>
        (w.strconv_Itoa x3 σ).bind fun q4 =>
        if (⟨#[32]⟩ : ByteArray).size + q4.1.size ≤ 9223372036854775807 then (
          if s_1.size + ((⟨#[32]⟩ : ByteArray) ++ q4.1).size ≤ 9223372036854775807 then (
            law26_words_L3 w L fu0 (s_1 ++ ((⟨#[32]⟩ : ByteArray) ++ q4.1)) l1 (IntKind.i64.wrap (x_2 + 1)) q4.2 K)
          else (
            none))
        else (
          none))
      else none)
    else K (.str s_1) σ := by kernel_rfl
set_option maxRecDepth 100000 in
theorem law26_words_eq {R : Type} (w : C_law26_words) (L : Nat) (l1 : Sl) (σ : Heap) (K : AVal → Heap → Option R) :
    callC T (O_law26_words w) L 2 40 [.slice l1.b l1.o l1.n 1] σ K =
    law26_words_L3 w L L (⟨#[]⟩ : ByteArray) l1 0 σ K := by kernel_rfl
/-! law26_events -/
noncomputable def law26_events_L3 {R : Type} (w : C_law26_events) (L fu0 : Nat) (s_1 : ByteArray) (l1 : Sl) (x_2 : Int) (σ : Heap) (K : AVal → Heap → Option R) : Option R :=
  loopAt T (O_law26_events w) L 1 23 Tryz.f23 [1, 1, 0, 1, 0] [] fu0
    ([.undef, .undef, .undef, .str s_1, .undef, .undef, .slice l1.b l1.o l1.n 5, .int .i64 (l1.n : Int), .int .i64 x_2] ++ List.replicate 33 .undef)
    (List.replicate 42 .none) σ K
set_option maxRecDepth 100000 in
theorem law26_events_L3_eq {R : Type} (w : C_law26_events) (L fu0 : Nat) (s_1 : ByteArray) (l1 : Sl) (x_2 : Int) (σ : Heap) (K : AVal → Heap → Option R) :
    law26_events_L3 w L (fu0 + 1) s_1 l1 x_2 σ K =
    bif (decide (x_2 < (l1.n : Int))) then (
      bif ((decide (0 ≤ x_2)) && (decide (x_2 < (l1.n : Int)))) then (
        (l1.b).bind fun b2 =>
        (int? (Heap.cell? σ b2 (l1.o + x_2.toNat * 5)) .i64).bind fun x3 =>
        (int? (Heap.cell? σ b2 ((l1.o + x_2.toNat * 5) + 1)) .i64).bind fun x4 =>
        (str? (Heap.cell? σ b2 ((l1.o + x_2.toNat * 5) + 2))).bind fun x5 =>
        (int? (Heap.cell? σ b2 ((l1.o + x_2.toNat * 5) + 3)) .i64).bind fun x6 =>
        (int? (Heap.cell? σ b2 ((l1.o + x_2.toNat * 5) + 4)) .i64).bind fun x7 =>
        alloc σ [.int .i64 x3, .int .i64 x4] fun b8 σ9 =>
        (w.law26_words ⟨(some b8), 0, 2⟩ σ9).bind fun q10 =>
        if (⟨#[101, 118, 101, 110, 116]⟩ : ByteArray).size + q10.1.size ≤ 9223372036854775807 then (
          if s_1.size + ((⟨#[101, 118, 101, 110, 116]⟩ : ByteArray) ++ q10.1).size ≤ 9223372036854775807 then (
            bif (x4 == 2) then (
              alloc q10.2 [.int .i64 x6, .int .i64 x7] fun b11 σ12 =>
              (w.law26_words ⟨(some b11), 0, 2⟩ σ12).bind fun q13 =>
              if q13.1.size + (⟨#[10]⟩ : ByteArray).size ≤ 9223372036854775807 then (
                if (s_1 ++ ((⟨#[101, 118, 101, 110, 116]⟩ : ByteArray) ++ q10.1)).size + (q13.1 ++ (⟨#[10]⟩ : ByteArray)).size ≤ 9223372036854775807 then (
                  law26_events_L3 w L fu0 ((s_1 ++ ((⟨#[101, 118, 101, 110, 116]⟩ : ByteArray) ++ q10.1)) ++ (q13.1 ++ (⟨#[10]⟩ : ByteArray))) l1 (IntKind.i64.wrap (x_2 + 1)) q13.2 K)
                else (
                  none))
              else (
                none))
            else
            (w.json_Quote x5 q10.2).bind fun q14 =>
            if (⟨#[32]⟩ : ByteArray).size + q14.1.size ≤ 9223372036854775807 then (
              if ((⟨#[32]⟩ : ByteArray) ++ q14.1).size + (⟨#[10]⟩ : ByteArray).size ≤ 9223372036854775807 then (
                if (s_1 ++ ((⟨#[101, 118, 101, 110, 116]⟩ : ByteArray) ++ q10.1)).size + (((⟨#[32]⟩ : ByteArray) ++ q14.1) ++ (⟨#[10]⟩ : ByteArray)).size ≤ 9223372036854775807 then (
                  law26_events_L3 w L fu0 ((s_1 ++ ((⟨#[101, 118, 101, 110, 116]⟩ : ByteArray) ++ q10.1)) ++ (((⟨#[32]⟩ : ByteArray) ++ q14.1) ++ (⟨#[10]⟩ : ByteArray))) l1 (IntKind.i64.wrap (x_2 + 1)) q14.2 K)
                else (
                  none))
              else (
                none))
            else (
              none))
          else (
            none))
        else (
          none))
      else none)
    else K (.str s_1) σ := by kernel_rfl
set_option maxRecDepth 100000 in
theorem law26_events_eq {R : Type} (w : C_law26_events) (L : Nat) (l1 : Sl) (σ : Heap) (K : AVal → Heap → Option R) :
    callC T (O_law26_events w) L 2 23 [.slice l1.b l1.o l1.n 5] σ K =
    law26_events_L3 w L L (⟨#[]⟩ : ByteArray) l1 0 σ K := by kernel_rfl
/-! law26_TellRecs -/
noncomputable def law26_TellRecs_L9 {R : Type} (w : C_law26_TellRecs) (L fu0 : Nat) (l_1 : Sl) (s_2 : ByteArray) (n_4 : Int) (x_3 : Int) (x_5 : Int) (σ : Heap) (K : AVal → Heap → Option R) : Option R :=
  loopAt T (O_law26_TellRecs w) L 1 6 Tryz.f6 [1, 1, 1, 1, 1, 1, 0, 1, 0] [] fu0
    ([.undef, .undef, .undef, .slice l_1.b l_1.o l_1.n 5, .str s_2, .int .i64 n_4] ++ List.replicate 13 .undef ++ [.int .i64 x_3, .int .i64 x_5] ++ List.replicate 19 .undef)
    (List.replicate 40 .none) σ K
set_option maxRecDepth 100000 in
theorem law26_TellRecs_L9_eq {R : Type} (w : C_law26_TellRecs) (L fu0 : Nat) (l_1 : Sl) (s_2 : ByteArray) (n_4 : Int) (x_3 : Int) (x_5 : Int) (σ : Heap) (K : AVal → Heap → Option R) :
    law26_TellRecs_L9 w L (fu0 + 1) l_1 s_2 n_4 x_3 x_5 σ K =
    bif (decide (x_5 < x_3)) then (
      bif ((decide (0 ≤ x_5)) && (decide (x_5 < (s_2.size : Int)))) then (
        bif (((s_2.data.toList.getD x_5.toNat 0).toNat : Int) == 10) then (
          law26_TellRecs_L9 w L fu0 l_1 s_2 (IntKind.i64.wrap (n_4 + 1)) x_3 (IntKind.i64.wrap (x_5 + 1)) σ K)
        else
        law26_TellRecs_L9 w L fu0 l_1 s_2 n_4 x_3 (IntKind.i64.wrap (x_5 + 1)) σ K)
      else none)
    else
    (w.law26_events l_1 σ).bind fun q8 =>
    bif (s_2.toList == q8.1.toList) then (
      K (.bool (n_4 == (l_1.n : Int))) q8.2)
    else
    K (.bool false) q8.2 := by kernel_rfl
set_option maxRecDepth 100000 in
theorem law26_TellRecs_eq {R : Type} (w : C_law26_TellRecs) (L : Nat) (p1 : law13_Plan) (σ : Heap) (K : AVal → Heap → Option R) :
    callC T (O_law26_TellRecs w) L 2 6 [.agg [.int .i64 p1.Size.i0, .int .i64 p1.Size.i1, .slice p1.Events.b p1.Events.o p1.Events.n 5, .slice p1.Marks.b p1.Marks.o p1.Marks.n 1]] σ K =
    (w.law26_fit σ).bind fun q2 =>
    bif (!q2.1) then (
      K (.bool false) q2.2)
    else
    (w.law13_Plan_Few p1 q2.2).bind fun q3 =>
    bif (!q3.1) then (
      K (.bool true) q3.2)
    else
    (w.law13_Plan_Tame p1 q3.2).bind fun q4 =>
    alloc q4.2 [.slice none 0 0 1, .slice q4.1.b q4.1.o q4.1.n 5, .slice none 0 0 2] fun b5 σ6 =>
    (w.tell_Rec (some (b5, 0)) σ6).bind fun q7 =>
    law26_TellRecs_L9 w L L q4.1 q7.1 0 (q7.1.size : Int) 0 q7.2 K := by kernel_rfl
/-! crc_Sum -/
noncomputable def crc_Sum_L3 {R : Type} (L fu0 : Nat) (c_3 : Int) (b1 : Sl) (x_4 : Int) (σ : Heap) (K : AVal → Heap → Option R) : Option R :=
  loopAt T known0 L 1 264 Tryz.f264 [1, 1, 0, 1, 0] [] fu0
    ([.undef, .undef, .undef, .int .u32 c_3, .undef, .undef, .slice b1.b b1.o b1.n 1, .int .i64 (b1.n : Int), .int .i64 x_4] ++ List.replicate 19 .undef)
    (List.replicate 28 .none) σ K
noncomputable def crc_Sum_L7 {R : Type} (L fu0 fu1 : Nat) (c_1 : Int) (b1 : Sl) (x_4 : Int) (x_2 : Int) (σ : Heap) (K : AVal → Heap → Option R) : Option R :=
  loopAt T known0 L 1 264 Tryz.f264 [1, 1, 0, 1, 0, 0, 1, 1, 0, 0, 1, 1, 1, 0] [fu0] fu1
    ([.undef, .undef, .undef, .int .u32 c_1, .undef, .undef, .slice b1.b b1.o b1.n 1, .int .i64 (b1.n : Int), .int .i64 x_4] ++ List.replicate 7 .undef ++ [.int .i64 x_2] ++ List.replicate 11 .undef)
    (List.replicate 28 .none) σ K
set_option maxRecDepth 100000 in
theorem crc_Sum_L3_eq {R : Type} (L fu0 : Nat) (c_3 : Int) (b1 : Sl) (x_4 : Int) (σ : Heap) (K : AVal → Heap → Option R) :
    crc_Sum_L3 L (fu0 + 1) c_3 b1 x_4 σ K =
    bif (decide (x_4 < (b1.n : Int))) then (
      bif ((decide (0 ≤ x_4)) && (decide (x_4 < (b1.n : Int)))) then (
        (b1.b).bind fun b2 =>
        (int? (Heap.cell? σ b2 (b1.o + x_4.toNat * 1)) .u8).bind fun x3 =>
        crc_Sum_L7 L fu0 L (IntKind.u32.wrap (BitVec.ofInt IntKind.u32.bits c_3 ^^^ BitVec.ofInt IntKind.u32.bits (IntKind.u32.wrap x3)).toNat) b1 x_4 0 σ K)
      else none)
    else K (.int .u32 (IntKind.u32.wrap (BitVec.ofInt IntKind.u32.bits IntKind.u32.max ^^^ BitVec.ofInt IntKind.u32.bits c_3).toNat)) σ := by kernel_rfl
set_option maxRecDepth 100000 in
theorem crc_Sum_L7_eq {R : Type} (L fu0 fu1 : Nat) (c_1 : Int) (b1 : Sl) (x_4 : Int) (x_2 : Int) (σ : Heap) (K : AVal → Heap → Option R) :
    crc_Sum_L7 L fu0 (fu1 + 1) c_1 b1 x_4 x_2 σ K =
    bif (decide (x_2 < 8)) then (
      crc_Sum_L7 L fu0 fu1 (IntKind.u32.wrap (BitVec.ofInt IntKind.u32.bits (Int.fdiv c_1 (2 ^ 1)) ^^^ BitVec.ofInt IntKind.u32.bits (IntKind.u32.wrap (3988292384 * (IntKind.u32.wrap (BitVec.ofInt IntKind.u32.bits c_1 &&& BitVec.ofInt IntKind.u32.bits 1).toNat)))).toNat) b1 x_4 (IntKind.i64.wrap (x_2 + 1)) σ K)
    else
    crc_Sum_L3 L fu0 c_1 b1 (IntKind.i64.wrap (x_4 + 1)) σ K := by kernel_rfl
set_option maxRecDepth 100000 in
theorem crc_Sum_eq {R : Type} (L : Nat) (b1 : Sl) (σ : Heap) (K : AVal → Heap → Option R) :
    callC T known0 L 2 264 [.slice b1.b b1.o b1.n 1] σ K =
    crc_Sum_L3 L L 4294967295 b1 0 σ K := by kernel_rfl
end Go.Abs.TE
