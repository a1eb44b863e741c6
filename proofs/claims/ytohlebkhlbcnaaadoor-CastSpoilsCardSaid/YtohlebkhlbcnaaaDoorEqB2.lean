/-
Lifted functions: what the machine does, one equation for each entry and each loop (printed by lift.py).
-/
import Derived.Test.YtohlebkhlbcnaaaDoorSigB
namespace Go.Abs.TB
open Go Go.Abs Go.Proofs
/-! law03_JsonSigns -/
noncomputable def law03_JsonSigns_L7 {R : Type} (w : C_law03_JsonSigns) (L fu0 : Nat) (s1 : ByteArray) (want_1 : ByteArray) (b3 : Nat) (x_2 : Int) (σ : Heap) (K : AVal → Heap → Option R) : Option R :=
  loopAt T (O_law03_JsonSigns w) L 1 3 Tryd.f3 [1, 1, 1, 1, 0, 1, 0] [] fu0
    ([.str s1, .undef, .undef, .str want_1] ++ List.replicate 9 .undef ++ [.slice (some b3) 0 ((runesA s1 s1.size 0).length) 1, .int .i64 (((runesA s1 s1.size 0).length : Nat) : Int), .int .i64 x_2] ++ List.replicate 66 .undef)
    (List.replicate 82 .none) σ K
set_option maxRecDepth 100000 in
theorem law03_JsonSigns_L7_eq {R : Type} (w : C_law03_JsonSigns) (L fu0 : Nat) (s1 : ByteArray) (want_1 : ByteArray) (b3 : Nat) (x_2 : Int) (σ : Heap) (K : AVal → Heap → Option R) :
    law03_JsonSigns_L7 w L (fu0 + 1) s1 want_1 b3 x_2 σ K =
    bif (decide (x_2 < (((runesA s1 s1.size 0).length : Nat) : Int))) then (
      bif ((decide (0 ≤ x_2)) && (decide (x_2 < (((runesA s1 s1.size 0).length : Nat) : Int)))) then (
        (int? (Heap.cell? σ b3 (0 + x_2.toNat * 1)) .i32).bind fun x5 =>
        bif (x5 == 34) then (
          alloc σ [.int .i32 x5] fun b6 σ7 =>
          (Heap.read σ7 (some b6) 0 1 1).bind fun cs8 =>
          (runesIn cs8).bind fun rs9 =>
          if (⟨#[92]⟩ : ByteArray).size + (encodeAll rs9).size ≤ 9223372036854775807 then (
            if want_1.size + ((⟨#[92]⟩ : ByteArray) ++ (encodeAll rs9)).size ≤ 9223372036854775807 then (
              law03_JsonSigns_L7 w L fu0 s1 (want_1 ++ ((⟨#[92]⟩ : ByteArray) ++ (encodeAll rs9))) b3 (IntKind.i64.wrap (x_2 + 1)) σ7 K)
            else (
              none))
          else (
            none))
        else
        bif (x5 == 92) then (
          alloc σ [.int .i32 x5] fun b10 σ11 =>
          (Heap.read σ11 (some b10) 0 1 1).bind fun cs12 =>
          (runesIn cs12).bind fun rs13 =>
          if (⟨#[92]⟩ : ByteArray).size + (encodeAll rs13).size ≤ 9223372036854775807 then (
            if want_1.size + ((⟨#[92]⟩ : ByteArray) ++ (encodeAll rs13)).size ≤ 9223372036854775807 then (
              law03_JsonSigns_L7 w L fu0 s1 (want_1 ++ ((⟨#[92]⟩ : ByteArray) ++ (encodeAll rs13))) b3 (IntKind.i64.wrap (x_2 + 1)) σ11 K)
            else (
              none))
          else (
            none))
        else
        bif (x5 == 10) then (
          if want_1.size + (⟨#[92, 110]⟩ : ByteArray).size ≤ 9223372036854775807 then (
            law03_JsonSigns_L7 w L fu0 s1 (want_1 ++ (⟨#[92, 110]⟩ : ByteArray)) b3 (IntKind.i64.wrap (x_2 + 1)) σ K)
          else (
            none))
        else
        bif (x5 == 13) then (
          if want_1.size + (⟨#[92, 114]⟩ : ByteArray).size ≤ 9223372036854775807 then (
            law03_JsonSigns_L7 w L fu0 s1 (want_1 ++ (⟨#[92, 114]⟩ : ByteArray)) b3 (IntKind.i64.wrap (x_2 + 1)) σ K)
          else (
            none))
        else
        bif (decide (x5 < 32)) then (
          bif (decide ((Int.tmod x5 16) > 9)) then (
            alloc σ [.int .u8 (IntKind.u8.wrap (IntKind.i32.wrap (48 + (IntKind.i32.wrap (Int.tdiv x5 16))))), .int .u8 (IntKind.u8.wrap (IntKind.i32.wrap ((IntKind.i32.wrap (97 + (Int.tmod x5 16))) - 10)))] fun b14 σ15 =>
            (Heap.read σ15 (some b14) 0 2 1).bind fun cs16 =>
            (bytesOf cs16).bind fun bs17 =>
            if (⟨#[92, 117, 48, 48]⟩ : ByteArray).size + (⟨bs17.toArray⟩ : ByteArray).size ≤ 9223372036854775807 then (
              if want_1.size + ((⟨#[92, 117, 48, 48]⟩ : ByteArray) ++ (⟨bs17.toArray⟩ : ByteArray)).size ≤ 9223372036854775807 then (
                law03_JsonSigns_L7 w L fu0 s1 (want_1 ++ ((⟨#[92, 117, 48, 48]⟩ : ByteArray) ++ (⟨bs17.toArray⟩ : ByteArray))) b3 (IntKind.i64.wrap (x_2 + 1)) σ15 K)
              else (
                none))
            else (
              none))
          else
          alloc σ [.int .u8 (IntKind.u8.wrap (IntKind.i32.wrap (48 + (IntKind.i32.wrap (Int.tdiv x5 16))))), .int .u8 (IntKind.u8.wrap (IntKind.i32.wrap (48 + (Int.tmod x5 16))))] fun b18 σ19 =>
          (Heap.read σ19 (some b18) 0 2 1).bind fun cs20 =>
          (bytesOf cs20).bind fun bs21 =>
          if (⟨#[92, 117, 48, 48]⟩ : ByteArray).size + (⟨bs21.toArray⟩ : ByteArray).size ≤ 9223372036854775807 then (
            if want_1.size + ((⟨#[92, 117, 48, 48]⟩ : ByteArray) ++ (⟨bs21.toArray⟩ : ByteArray)).size ≤ 9223372036854775807 then (
              law03_JsonSigns_L7 w L fu0 s1 (want_1 ++ ((⟨#[92, 117, 48, 48]⟩ : ByteArray) ++ (⟨bs21.toArray⟩ : ByteArray))) b3 (IntKind.i64.wrap (x_2 + 1)) σ19 K)
            else (
              none))
          else (
            none))
        else
        bif (x5 == 127) then (
          bif (decide ((Int.tmod x5 16) > 9)) then (
            alloc σ [.int .u8 (IntKind.u8.wrap (IntKind.i32.wrap (48 + (IntKind.i32.wrap (Int.tdiv x5 16))))), .int .u8 (IntKind.u8.wrap (IntKind.i32.wrap ((IntKind.i32.wrap (97 + (Int.tmod x5 16))) - 10)))] fun b22 σ23 =>
            (Heap.read σ23 (some b22) 0 2 1).bind fun cs24 =>
            (bytesOf cs24).bind fun bs25 =>
            if (⟨#[92, 117, 48, 48]⟩ : ByteArray).size + (⟨bs25.toArray⟩ : ByteArray).size ≤ 9223372036854775807 then (
              if want_1.size + ((⟨#[92, 117, 48, 48]⟩ : ByteArray) ++ (⟨bs25.toArray⟩ : ByteArray)).size ≤ 9223372036854775807 then (
                law03_JsonSigns_L7 w L fu0 s1 (want_1 ++ ((⟨#[92, 117, 48, 48]⟩ : ByteArray) ++ (⟨bs25.toArray⟩ : ByteArray))) b3 (IntKind.i64.wrap (x_2 + 1)) σ23 K)
              else (
                none))
            else (
              none))
          else
          alloc σ [.int .u8 (IntKind.u8.wrap (IntKind.i32.wrap (48 + (IntKind.i32.wrap (Int.tdiv x5 16))))), .int .u8 (IntKind.u8.wrap (IntKind.i32.wrap (48 + (Int.tmod x5 16))))] fun b26 σ27 =>
          (Heap.read σ27 (some b26) 0 2 1).bind fun cs28 =>
          (bytesOf cs28).bind fun bs29 =>
          if (⟨#[92, 117, 48, 48]⟩ : ByteArray).size + (⟨bs29.toArray⟩ : ByteArray).size ≤ 9223372036854775807 then (
            if want_1.size + ((⟨#[92, 117, 48, 48]⟩ : ByteArray) ++ (⟨bs29.toArray⟩ : ByteArray)).size ≤ 9223372036854775807 then (
              law03_JsonSigns_L7 w L fu0 s1 (want_1 ++ ((⟨#[92, 117, 48, 48]⟩ : ByteArray) ++ (⟨bs29.toArray⟩ : ByteArray))) b3 (IntKind.i64.wrap (x_2 + 1)) σ27 K)
            else (
              none))
          else (
            none))
        else
        alloc σ [.int .i32 x5] fun b30 σ31 =>
        (Heap.read σ31 (some b30) 0 1 1).bind fun cs32 =>
        (runesIn cs32).bind fun rs33 =>
        if want_1.size + (encodeAll rs33).size ≤ 9223372036854775807 then (
          law03_JsonSigns_L7 w L fu0 s1 (want_1 ++ (encodeAll rs33)) b3 (IntKind.i64.wrap (x_2 + 1)) σ31 K)
        else (
          none))
      else none)
    else
    (w.json_Quote s1 σ).bind fun q34 =>
    if want_1.size + (⟨#[34]⟩ : ByteArray).size ≤ 9223372036854775807 then (
      K (.bool (q34.1.toList == (want_1 ++ (⟨#[34]⟩ : ByteArray)).toList)) q34.2)
    else (
      none) := by kernel_rfl
set_option maxRecDepth 100000 in
theorem law03_JsonSigns_eq {R : Type} (w : C_law03_JsonSigns) (L : Nat) (s1 : ByteArray) (σ : Heap) (K : AVal → Heap → Option R) :
    callC T (O_law03_JsonSigns w) L 2 3 [.str s1] σ K =
    (w.law03_fit σ).bind fun q2 =>
    bif (!q2.1) then (
      K (.bool false) q2.2)
    else
    bif (decide ((s1.size : Int) > 300)) then (
      K (.bool true) q2.2)
    else
    bif (decide (s1.size ≤ 70368744177664)) then (
      alloc q2.2 ((runesA s1 s1.size 0).map fun n => AVal.int .i32 n) fun b3 σ4 =>
      law03_JsonSigns_L7 w L L s1 (⟨#[34]⟩ : ByteArray) b3 0 σ4 K)
    else none := by kernel_rfl
/-! strings_Builder_WriteString -/
set_option maxRecDepth 100000 in
theorem strings_Builder_WriteString_eq {R : Type} (w : C_strings_Builder_WriteString) (L : Nat) (b1 : Pt) (s2 : ByteArray) (σ : Heap) (K : AVal → Heap → Option R) :
    callC T (O_strings_Builder_WriteString w) L 2 30 [.ptr b1, .str s2] σ K =
    (w.strings_Builder_copyCheck b1 σ).bind fun q3 =>
    (b1).bind fun q4 =>
    (slice? (Heap.cell? q3.2 q4.1 (q4.2 + 1)) 1).bind fun x5 =>
    (Heap.appendT q3.2 x5.1 x5.2.1 x5.2.2 1 1 ((s2.data.toList.map fun b => AVal.int .u8 b.toNat).take s2.size) s2.size 5).bind fun q6 =>
    (b1).bind fun q7 =>
    (Heap.store q6.2 q7.1 (q7.2 + 1) [.slice q6.1.1 q6.1.2.1 q6.1.2.2 1]).bind fun σ8 =>
    K (.tuple [.int .i64 (s2.size : Int), .niliface]) σ8 := by kernel_rfl
/-! strings_Builder_String -/
set_option maxRecDepth 100000 in
theorem strings_Builder_String_eq {R : Type} (L : Nat) (b1 : Pt) (σ : Heap) (K : AVal → Heap → Option R) :
    callC T known0 L 2 32 [.ptr b1] σ K =
    (b1).bind fun q2 =>
    (slice? (Heap.cell? σ q2.1 (q2.2 + 1)) 1).bind fun x3 =>
    (sliceData x3.1 x3.2.1 x3.2.2).bind fun p4 =>
    (b1).bind fun q5 =>
    (slice? (Heap.cell? σ q5.1 (q5.2 + 1)) 1).bind fun x6 =>
    (Heap.textOf σ p4 (x6.2.2 : Int) 5).bind fun q7 =>
    K (.str q7.1) q7.2 := by kernel_rfl
/-! cast_Export -/
noncomputable def cast_Export_L4 {R : Type} (w : C_cast_Export) (L fu0 : Nat) (b4 : Nat) (l3 : Sl) (x_1 : Int) (σ : Heap) (K : AVal → Heap → Option R) : Option R :=
  loopAt T (O_cast_Export w) L 1 18 Tryd.f18 [1, 1, 1, 0, 1, 0] [] fu0
    (List.replicate 7 .undef ++ [.ptr (some (b4, 0))] ++ List.replicate 12 .undef ++ [.slice l3.b l3.o l3.n 5, .int .i64 (l3.n : Int), .int .i64 x_1] ++ List.replicate 36 .undef)
    (List.replicate 59 .none) σ K
set_option maxRecDepth 100000 in
theorem cast_Export_L4_eq {R : Type} (w : C_cast_Export) (L fu0 : Nat) (b4 : Nat) (l3 : Sl) (x_1 : Int) (σ : Heap) (K : AVal → Heap → Option R) :
    cast_Export_L4 w L (fu0 + 1) b4 l3 x_1 σ K =
    bif (decide (x_1 < (l3.n : Int))) then (
      bif ((decide (0 ≤ x_1)) && (decide (x_1 < (l3.n : Int)))) then (
        (l3.b).bind fun b9 =>
        (int? (Heap.cell? σ b9 (l3.o + x_1.toNat * 5)) .i64).bind fun x10 =>
        (int? (Heap.cell? σ b9 ((l3.o + x_1.toNat * 5) + 1)) .i64).bind fun x11 =>
        (str? (Heap.cell? σ b9 ((l3.o + x_1.toNat * 5) + 2))).bind fun x12 =>
        (int? (Heap.cell? σ b9 ((l3.o + x_1.toNat * 5) + 3)) .i64).bind fun x13 =>
        (int? (Heap.cell? σ b9 ((l3.o + x_1.toNat * 5) + 4)) .i64).bind fun x14 =>
        bif (x11 == 2) then (
          (w.strconv_Itoa x13 (Heap.frz σ)).bind fun q15 =>
          if q15.1.size + (⟨#[120]⟩ : ByteArray).size ≤ 9223372036854775807 then (
            (w.strconv_Itoa x14 (Heap.frz (Heap.back σ q15.2))).bind fun q16 =>
            if (q15.1 ++ (⟨#[120]⟩ : ByteArray)).size + q16.1.size ≤ 9223372036854775807 then (
              (w.json_Time x10 (Heap.frz (Heap.back (Heap.back σ q15.2) q16.2))).bind fun q17 =>
              if (⟨#[91]⟩ : ByteArray).size + q17.1.size ≤ 9223372036854775807 then (
                if ((⟨#[91]⟩ : ByteArray) ++ q17.1).size + (⟨#[44, 32, 34]⟩ : ByteArray).size ≤ 9223372036854775807 then (
                  bif (((decide (0 ≤ x11)) && (decide (x11 ≤ (IntKind.i64.wrap (x11 + 1))))) && (decide ((IntKind.i64.wrap (x11 + 1)) ≤ 4))) then (
                    if (((⟨#[91]⟩ : ByteArray) ++ q17.1) ++ (⟨#[44, 32, 34]⟩ : ByteArray)).size + ((⟨#[111, 105, 114, 109]⟩ : ByteArray).extract x11.toNat (IntKind.i64.wrap (x11 + 1)).toNat).size ≤ 9223372036854775807 then (
                      if ((((⟨#[91]⟩ : ByteArray) ++ q17.1) ++ (⟨#[44, 32, 34]⟩ : ByteArray)) ++ ((⟨#[111, 105, 114, 109]⟩ : ByteArray).extract x11.toNat (IntKind.i64.wrap (x11 + 1)).toNat)).size + (⟨#[34, 44, 32]⟩ : ByteArray).size ≤ 9223372036854775807 then (
                        (w.json_Quote ((q15.1 ++ (⟨#[120]⟩ : ByteArray)) ++ q16.1) (Heap.frz (Heap.back (Heap.back (Heap.back σ q15.2) q16.2) q17.2))).bind fun q18 =>
                        if (((((⟨#[91]⟩ : ByteArray) ++ q17.1) ++ (⟨#[44, 32, 34]⟩ : ByteArray)) ++ ((⟨#[111, 105, 114, 109]⟩ : ByteArray).extract x11.toNat (IntKind.i64.wrap (x11 + 1)).toNat)) ++ (⟨#[34, 44, 32]⟩ : ByteArray)).size + q18.1.size ≤ 9223372036854775807 then (
                          if ((((((⟨#[91]⟩ : ByteArray) ++ q17.1) ++ (⟨#[44, 32, 34]⟩ : ByteArray)) ++ ((⟨#[111, 105, 114, 109]⟩ : ByteArray).extract x11.toNat (IntKind.i64.wrap (x11 + 1)).toNat)) ++ (⟨#[34, 44, 32]⟩ : ByteArray)) ++ q18.1).size + (⟨#[93, 10]⟩ : ByteArray).size ≤ 9223372036854775807 then (
                            (w.strings_Builder_WriteString (some (b4, 0)) (((((((⟨#[91]⟩ : ByteArray) ++ q17.1) ++ (⟨#[44, 32, 34]⟩ : ByteArray)) ++ ((⟨#[111, 105, 114, 109]⟩ : ByteArray).extract x11.toNat (IntKind.i64.wrap (x11 + 1)).toNat)) ++ (⟨#[34, 44, 32]⟩ : ByteArray)) ++ q18.1) ++ (⟨#[93, 10]⟩ : ByteArray)) (Heap.back (Heap.back (Heap.back (Heap.back σ q15.2) q16.2) q17.2) q18.2)).bind fun q19 =>
                            cast_Export_L4 w L fu0 b4 l3 (IntKind.i64.wrap (x_1 + 1)) q19.2 K)
                          else (
                            none))
                        else (
                          none))
                      else (
                        none))
                    else (
                      none))
                  else none)
                else (
                  none))
              else (
                none))
            else (
              none))
          else (
            none))
        else
        (w.json_Time x10 (Heap.frz σ)).bind fun q20 =>
        if (⟨#[91]⟩ : ByteArray).size + q20.1.size ≤ 9223372036854775807 then (
          if ((⟨#[91]⟩ : ByteArray) ++ q20.1).size + (⟨#[44, 32, 34]⟩ : ByteArray).size ≤ 9223372036854775807 then (
            bif (((decide (0 ≤ x11)) && (decide (x11 ≤ (IntKind.i64.wrap (x11 + 1))))) && (decide ((IntKind.i64.wrap (x11 + 1)) ≤ 4))) then (
              if (((⟨#[91]⟩ : ByteArray) ++ q20.1) ++ (⟨#[44, 32, 34]⟩ : ByteArray)).size + ((⟨#[111, 105, 114, 109]⟩ : ByteArray).extract x11.toNat (IntKind.i64.wrap (x11 + 1)).toNat).size ≤ 9223372036854775807 then (
                if ((((⟨#[91]⟩ : ByteArray) ++ q20.1) ++ (⟨#[44, 32, 34]⟩ : ByteArray)) ++ ((⟨#[111, 105, 114, 109]⟩ : ByteArray).extract x11.toNat (IntKind.i64.wrap (x11 + 1)).toNat)).size + (⟨#[34, 44, 32]⟩ : ByteArray).size ≤ 9223372036854775807 then (
                  (w.json_Quote x12 (Heap.frz (Heap.back σ q20.2))).bind fun q21 =>
                  if (((((⟨#[91]⟩ : ByteArray) ++ q20.1) ++ (⟨#[44, 32, 34]⟩ : ByteArray)) ++ ((⟨#[111, 105, 114, 109]⟩ : ByteArray).extract x11.toNat (IntKind.i64.wrap (x11 + 1)).toNat)) ++ (⟨#[34, 44, 32]⟩ : ByteArray)).size + q21.1.size ≤ 9223372036854775807 then (
                    if ((((((⟨#[91]⟩ : ByteArray) ++ q20.1) ++ (⟨#[44, 32, 34]⟩ : ByteArray)) ++ ((⟨#[111, 105, 114, 109]⟩ : ByteArray).extract x11.toNat (IntKind.i64.wrap (x11 + 1)).toNat)) ++ (⟨#[34, 44, 32]⟩ : ByteArray)) ++ q21.1).size + (⟨#[93, 10]⟩ : ByteArray).size ≤ 9223372036854775807 then (
                      (w.strings_Builder_WriteString (some (b4, 0)) (((((((⟨#[91]⟩ : ByteArray) ++ q20.1) ++ (⟨#[44, 32, 34]⟩ : ByteArray)) ++ ((⟨#[111, 105, 114, 109]⟩ : ByteArray).extract x11.toNat (IntKind.i64.wrap (x11 + 1)).toNat)) ++ (⟨#[34, 44, 32]⟩ : ByteArray)) ++ q21.1) ++ (⟨#[93, 10]⟩ : ByteArray)) (Heap.back (Heap.back σ q20.2) q21.2)).bind fun q22 =>
                      cast_Export_L4 w L fu0 b4 l3 (IntKind.i64.wrap (x_1 + 1)) q22.2 K)
                    else (
                      none))
                  else (
                    none))
                else (
                  none))
              else (
                none))
            else none)
          else (
            none))
        else (
          none))
      else none)
    else
    (w.strings_Builder_String (some (b4, 0)) σ).bind fun q23 =>
    K (.str q23.1) q23.2 := by kernel_rfl
set_option maxRecDepth 100000 in
theorem cast_Export_eq {R : Type} (w : C_cast_Export) (L : Nat) (w1 : Int) (h2 : Int) (l3 : Sl) (σ : Heap) (K : AVal → Heap → Option R) :
    callC T (O_cast_Export w) L 2 18 [.int .i64 w1, .int .i64 h2, .slice l3.b l3.o l3.n 5] σ K =
    allocT σ 51 [.ptr none, .slice none 0 0 1] fun b4 σ5 =>
    (w.strconv_Itoa w1 σ5).bind fun q6 =>
    if (⟨#[123, 34, 118, 101, 114, 115, 105, 111, 110, 34, 58, 32, 50, 44, 32, 34, 119, 105, 100, 116, 104, 34, 58, 32]⟩ : ByteArray).size + q6.1.size ≤ 9223372036854775807 then (
      if ((⟨#[123, 34, 118, 101, 114, 115, 105, 111, 110, 34, 58, 32, 50, 44, 32, 34, 119, 105, 100, 116, 104, 34, 58, 32]⟩ : ByteArray) ++ q6.1).size + (⟨#[44, 32, 34, 104, 101, 105, 103, 104, 116, 34, 58, 32]⟩ : ByteArray).size ≤ 9223372036854775807 then (
        (w.strconv_Itoa h2 q6.2).bind fun q7 =>
        if (((⟨#[123, 34, 118, 101, 114, 115, 105, 111, 110, 34, 58, 32, 50, 44, 32, 34, 119, 105, 100, 116, 104, 34, 58, 32]⟩ : ByteArray) ++ q6.1) ++ (⟨#[44, 32, 34, 104, 101, 105, 103, 104, 116, 34, 58, 32]⟩ : ByteArray)).size + q7.1.size ≤ 9223372036854775807 then (
          if ((((⟨#[123, 34, 118, 101, 114, 115, 105, 111, 110, 34, 58, 32, 50, 44, 32, 34, 119, 105, 100, 116, 104, 34, 58, 32]⟩ : ByteArray) ++ q6.1) ++ (⟨#[44, 32, 34, 104, 101, 105, 103, 104, 116, 34, 58, 32]⟩ : ByteArray)) ++ q7.1).size + (⟨#[125, 10]⟩ : ByteArray).size ≤ 9223372036854775807 then (
            (w.strings_Builder_WriteString (some (b4, 0)) (((((⟨#[123, 34, 118, 101, 114, 115, 105, 111, 110, 34, 58, 32, 50, 44, 32, 34, 119, 105, 100, 116, 104, 34, 58, 32]⟩ : ByteArray) ++ q6.1) ++ (⟨#[44, 32, 34, 104, 101, 105, 103, 104, 116, 34, 58, 32]⟩ : ByteArray)) ++ q7.1) ++ (⟨#[125, 10]⟩ : ByteArray)) q7.2).bind fun q8 =>
            cast_Export_L4 w L L b4 l3 0 q8.2 K)
          else (
            none))
        else (
          none))
      else (
        none))
    else (
      none) := by kernel_rfl
/-! law17_fit -/
set_option maxRecDepth 100000 in
theorem law17_fit_eq {R : Type} (w : C_law17_fit) (L : Nat) (σ : Heap) (K : AVal → Heap → Option R) :
    callC T (O_law17_fit w) L 2 16 [] σ K =
    alloc σ [.int .i64 1, .int .i64 2, .str (⟨#[]⟩ : ByteArray), .int .i64 80, .int .i64 24] fun b1 σ2 =>
    (w.cast_Export 1 2 ⟨(some b1), 0, 1⟩ σ2).bind fun q3 =>
    K (.bool (q3.1.toList == (⟨#[123, 34, 118, 101, 114, 115, 105, 111, 110, 34, 58, 32, 50, 44, 32, 34, 119, 105, 100, 116, 104, 34, 58, 32, 49, 44, 32, 34, 104, 101, 105, 103, 104, 116, 34, 58, 32, 50, 125, 10, 91, 48, 46, 48, 48, 48, 48, 48, 49, 44, 32, 34, 114, 34, 44, 32, 34, 56, 48, 120, 50, 52, 34, 93, 10]⟩ : ByteArray).toList)) q3.2 := by kernel_rfl
/-! ref12_Tame -/
noncomputable def ref12_Tame_L4 {R : Type} (L fu0 : Nat) (l1 : Sl) (out_1 : Sl) (t_2 : Int) (i_3 : Int) (σ : Heap) (K : AVal → Heap → Option R) : Option R :=
  loopAt T known0 L 1 17 Tryd.f17 [1, 1, 1, 0, 1, 0] [] fu0
    ([.slice l1.b l1.o l1.n 5, .undef, .undef, .slice out_1.b out_1.o out_1.n 5, .int .i64 t_2, .int .i64 i_3] ++ List.replicate 52 .undef)
    (List.replicate 58 .none) σ K
set_option maxRecDepth 100000 in
theorem ref12_Tame_L4_eq {R : Type} (L fu0 : Nat) (l1 : Sl) (out_1 : Sl) (t_2 : Int) (i_3 : Int) (σ : Heap) (K : AVal → Heap → Option R) :
    ref12_Tame_L4 L (fu0 + 1) l1 out_1 t_2 i_3 σ K =
    bif (decide (i_3 < (l1.n : Int))) then (
      bif ((decide (0 ≤ i_3)) && (decide (i_3 < (l1.n : Int)))) then (
        (l1.b).bind fun b2 =>
        (int? (Heap.cell? σ b2 (l1.o + i_3.toNat * 5)) .i64).bind fun x3 =>
        (int? (Heap.cell? σ b2 ((l1.o + i_3.toNat * 5) + 1)) .i64).bind fun x4 =>
        (str? (Heap.cell? σ b2 ((l1.o + i_3.toNat * 5) + 2))).bind fun x5 =>
        (int? (Heap.cell? σ b2 ((l1.o + i_3.toNat * 5) + 3)) .i64).bind fun x6 =>
        (int? (Heap.cell? σ b2 ((l1.o + i_3.toNat * 5) + 4)) .i64).bind fun x7 =>
        bif (decide ((x5.size : Int) > 400)) then (
          bif (decide (400 ≤ (x5.size : Int))) then (
            bif ((IntKind.i64.wrap (BitVec.ofInt IntKind.i64.bits x4 &&& BitVec.ofInt IntKind.i64.bits 3).toNat) == 2) then (
              (Heap.append σ out_1.b out_1.o out_1.n 5 48 [.int .i64 (IntKind.i64.wrap (t_2 + (IntKind.i64.wrap (BitVec.ofInt IntKind.i64.bits x3 &&& BitVec.ofInt IntKind.i64.bits 65535).toNat))), .int .i64 (IntKind.i64.wrap (BitVec.ofInt IntKind.i64.bits x4 &&& BitVec.ofInt IntKind.i64.bits 3).toNat), .str (⟨#[]⟩ : ByteArray), .int .i64 (IntKind.i64.wrap ((IntKind.i64.wrap (BitVec.ofInt IntKind.i64.bits x6 &&& BitVec.ofInt IntKind.i64.bits 127).toNat) + 1)), .int .i64 (IntKind.i64.wrap ((IntKind.i64.wrap (BitVec.ofInt IntKind.i64.bits x7 &&& BitVec.ofInt IntKind.i64.bits 127).toNat) + 1))] 1).bind fun q8 =>
              ref12_Tame_L4 L fu0 l1 ⟨q8.1.1, q8.1.2.1, q8.1.2.2⟩ (IntKind.i64.wrap (t_2 + (IntKind.i64.wrap (BitVec.ofInt IntKind.i64.bits x3 &&& BitVec.ofInt IntKind.i64.bits 65535).toNat))) (IntKind.i64.wrap (i_3 + 1)) q8.2 K)
            else
            (Heap.append σ out_1.b out_1.o out_1.n 5 48 [.int .i64 (IntKind.i64.wrap (t_2 + (IntKind.i64.wrap (BitVec.ofInt IntKind.i64.bits x3 &&& BitVec.ofInt IntKind.i64.bits 65535).toNat))), .int .i64 (IntKind.i64.wrap (BitVec.ofInt IntKind.i64.bits x4 &&& BitVec.ofInt IntKind.i64.bits 3).toNat), .str (x5.extract 0 400), .int .i64 0, .int .i64 0] 1).bind fun q9 =>
            ref12_Tame_L4 L fu0 l1 ⟨q9.1.1, q9.1.2.1, q9.1.2.2⟩ (IntKind.i64.wrap (t_2 + (IntKind.i64.wrap (BitVec.ofInt IntKind.i64.bits x3 &&& BitVec.ofInt IntKind.i64.bits 65535).toNat))) (IntKind.i64.wrap (i_3 + 1)) q9.2 K)
          else none)
        else
        bif ((IntKind.i64.wrap (BitVec.ofInt IntKind.i64.bits x4 &&& BitVec.ofInt IntKind.i64.bits 3).toNat) == 2) then (
          (Heap.append σ out_1.b out_1.o out_1.n 5 48 [.int .i64 (IntKind.i64.wrap (t_2 + (IntKind.i64.wrap (BitVec.ofInt IntKind.i64.bits x3 &&& BitVec.ofInt IntKind.i64.bits 65535).toNat))), .int .i64 (IntKind.i64.wrap (BitVec.ofInt IntKind.i64.bits x4 &&& BitVec.ofInt IntKind.i64.bits 3).toNat), .str (⟨#[]⟩ : ByteArray), .int .i64 (IntKind.i64.wrap ((IntKind.i64.wrap (BitVec.ofInt IntKind.i64.bits x6 &&& BitVec.ofInt IntKind.i64.bits 127).toNat) + 1)), .int .i64 (IntKind.i64.wrap ((IntKind.i64.wrap (BitVec.ofInt IntKind.i64.bits x7 &&& BitVec.ofInt IntKind.i64.bits 127).toNat) + 1))] 1).bind fun q10 =>
          ref12_Tame_L4 L fu0 l1 ⟨q10.1.1, q10.1.2.1, q10.1.2.2⟩ (IntKind.i64.wrap (t_2 + (IntKind.i64.wrap (BitVec.ofInt IntKind.i64.bits x3 &&& BitVec.ofInt IntKind.i64.bits 65535).toNat))) (IntKind.i64.wrap (i_3 + 1)) q10.2 K)
        else
        (Heap.append σ out_1.b out_1.o out_1.n 5 48 [.int .i64 (IntKind.i64.wrap (t_2 + (IntKind.i64.wrap (BitVec.ofInt IntKind.i64.bits x3 &&& BitVec.ofInt IntKind.i64.bits 65535).toNat))), .int .i64 (IntKind.i64.wrap (BitVec.ofInt IntKind.i64.bits x4 &&& BitVec.ofInt IntKind.i64.bits 3).toNat), .str x5, .int .i64 0, .int .i64 0] 1).bind fun q11 =>
        ref12_Tame_L4 L fu0 l1 ⟨q11.1.1, q11.1.2.1, q11.1.2.2⟩ (IntKind.i64.wrap (t_2 + (IntKind.i64.wrap (BitVec.ofInt IntKind.i64.bits x3 &&& BitVec.ofInt IntKind.i64.bits 65535).toNat))) (IntKind.i64.wrap (i_3 + 1)) q11.2 K)
      else none)
    else K (.slice out_1.b out_1.o out_1.n 5) σ := by kernel_rfl
set_option maxRecDepth 100000 in
theorem ref12_Tame_eq {R : Type} (L : Nat) (l1 : Sl) (σ : Heap) (K : AVal → Heap → Option R) :
    callC T known0 L 2 17 [.slice l1.b l1.o l1.n 5] σ K =
    ref12_Tame_L4 L L l1 ⟨none, 0, 0⟩ 0 0 σ K := by kernel_rfl
/-! law17_write -/
noncomputable def law17_write_L3 {R : Type} (w : C_law17_write) (L fu0 : Nat) (s_1 : ByteArray) (l3 : Sl) (x_2 : Int) (σ : Heap) (K : AVal → Heap → Option R) : Option R :=
  loopAt T (O_law17_write w) L 1 19 Tryd.f19 [1, 1, 0, 1, 0] [] fu0
    (List.replicate 7 .undef ++ [.str s_1] ++ List.replicate 12 .undef ++ [.slice l3.b l3.o l3.n 5, .int .i64 (l3.n : Int), .int .i64 x_2] ++ List.replicate 37 .undef)
    (List.replicate 60 .none) σ K
set_option maxRecDepth 100000 in
theorem law17_write_L3_eq {R : Type} (w : C_law17_write) (L fu0 : Nat) (s_1 : ByteArray) (l3 : Sl) (x_2 : Int) (σ : Heap) (K : AVal → Heap → Option R) :
    law17_write_L3 w L (fu0 + 1) s_1 l3 x_2 σ K =
    bif (decide (x_2 < (l3.n : Int))) then (
      bif ((decide (0 ≤ x_2)) && (decide (x_2 < (l3.n : Int)))) then (
        (l3.b).bind fun b6 =>
        (int? (Heap.cell? σ b6 (l3.o + x_2.toNat * 5)) .i64).bind fun x7 =>
        (int? (Heap.cell? σ b6 ((l3.o + x_2.toNat * 5) + 1)) .i64).bind fun x8 =>
        (str? (Heap.cell? σ b6 ((l3.o + x_2.toNat * 5) + 2))).bind fun x9 =>
        (int? (Heap.cell? σ b6 ((l3.o + x_2.toNat * 5) + 3)) .i64).bind fun x10 =>
        (int? (Heap.cell? σ b6 ((l3.o + x_2.toNat * 5) + 4)) .i64).bind fun x11 =>
        bif (x8 == 1) then (
          (w.json_Time x7 σ).bind fun q12 =>
          if (⟨#[91]⟩ : ByteArray).size + q12.1.size ≤ 9223372036854775807 then (
            if ((⟨#[91]⟩ : ByteArray) ++ q12.1).size + (⟨#[44, 32, 34]⟩ : ByteArray).size ≤ 9223372036854775807 then (
              if (((⟨#[91]⟩ : ByteArray) ++ q12.1) ++ (⟨#[44, 32, 34]⟩ : ByteArray)).size + (⟨#[105]⟩ : ByteArray).size ≤ 9223372036854775807 then (
                if ((((⟨#[91]⟩ : ByteArray) ++ q12.1) ++ (⟨#[44, 32, 34]⟩ : ByteArray)) ++ (⟨#[105]⟩ : ByteArray)).size + (⟨#[34, 44, 32]⟩ : ByteArray).size ≤ 9223372036854775807 then (
                  (w.json_Quote x9 q12.2).bind fun q13 =>
                  if (((((⟨#[91]⟩ : ByteArray) ++ q12.1) ++ (⟨#[44, 32, 34]⟩ : ByteArray)) ++ (⟨#[105]⟩ : ByteArray)) ++ (⟨#[34, 44, 32]⟩ : ByteArray)).size + q13.1.size ≤ 9223372036854775807 then (
                    if ((((((⟨#[91]⟩ : ByteArray) ++ q12.1) ++ (⟨#[44, 32, 34]⟩ : ByteArray)) ++ (⟨#[105]⟩ : ByteArray)) ++ (⟨#[34, 44, 32]⟩ : ByteArray)) ++ q13.1).size + (⟨#[93, 10]⟩ : ByteArray).size ≤ 9223372036854775807 then (
                      if s_1.size + (((((((⟨#[91]⟩ : ByteArray) ++ q12.1) ++ (⟨#[44, 32, 34]⟩ : ByteArray)) ++ (⟨#[105]⟩ : ByteArray)) ++ (⟨#[34, 44, 32]⟩ : ByteArray)) ++ q13.1) ++ (⟨#[93, 10]⟩ : ByteArray)).size ≤ 9223372036854775807 then (
                        law17_write_L3 w L fu0 (s_1 ++ (((((((⟨#[91]⟩ : ByteArray) ++ q12.1) ++ (⟨#[44, 32, 34]⟩ : ByteArray)) ++ (⟨#[105]⟩ : ByteArray)) ++ (⟨#[34, 44, 32]⟩ : ByteArray)) ++ q13.1) ++ (⟨#[93, 10]⟩ : ByteArray))) l3 (IntKind.i64.wrap (x_2 + 1)) q13.2 K)
                      else (
                        none))
                    else (
                      none))
                  else (
                    none))
                else (
                  none))
              else (
                none))
            else (
              none))
          else (
            none))
        else
        bif (x8 == 2) then (
          (w.strconv_Itoa x10 (Heap.frz σ)).bind fun q14 =>
          if q14.1.size + (⟨#[120]⟩ : ByteArray).size ≤ 9223372036854775807 then (
            (w.strconv_Itoa x11 (Heap.frz (Heap.back σ q14.2))).bind fun q15 =>
            if (q14.1 ++ (⟨#[120]⟩ : ByteArray)).size + q15.1.size ≤ 9223372036854775807 then (
              (w.json_Time x7 (Heap.back (Heap.back σ q14.2) q15.2)).bind fun q16 =>
              if (⟨#[91]⟩ : ByteArray).size + q16.1.size ≤ 9223372036854775807 then (
                if ((⟨#[91]⟩ : ByteArray) ++ q16.1).size + (⟨#[44, 32, 34]⟩ : ByteArray).size ≤ 9223372036854775807 then (
                  if (((⟨#[91]⟩ : ByteArray) ++ q16.1) ++ (⟨#[44, 32, 34]⟩ : ByteArray)).size + (⟨#[114]⟩ : ByteArray).size ≤ 9223372036854775807 then (
                    if ((((⟨#[91]⟩ : ByteArray) ++ q16.1) ++ (⟨#[44, 32, 34]⟩ : ByteArray)) ++ (⟨#[114]⟩ : ByteArray)).size + (⟨#[34, 44, 32]⟩ : ByteArray).size ≤ 9223372036854775807 then (
                      (w.json_Quote ((q14.1 ++ (⟨#[120]⟩ : ByteArray)) ++ q15.1) q16.2).bind fun q17 =>
                      if (((((⟨#[91]⟩ : ByteArray) ++ q16.1) ++ (⟨#[44, 32, 34]⟩ : ByteArray)) ++ (⟨#[114]⟩ : ByteArray)) ++ (⟨#[34, 44, 32]⟩ : ByteArray)).size + q17.1.size ≤ 9223372036854775807 then (
                        if ((((((⟨#[91]⟩ : ByteArray) ++ q16.1) ++ (⟨#[44, 32, 34]⟩ : ByteArray)) ++ (⟨#[114]⟩ : ByteArray)) ++ (⟨#[34, 44, 32]⟩ : ByteArray)) ++ q17.1).size + (⟨#[93, 10]⟩ : ByteArray).size ≤ 9223372036854775807 then (
                          if s_1.size + (((((((⟨#[91]⟩ : ByteArray) ++ q16.1) ++ (⟨#[44, 32, 34]⟩ : ByteArray)) ++ (⟨#[114]⟩ : ByteArray)) ++ (⟨#[34, 44, 32]⟩ : ByteArray)) ++ q17.1) ++ (⟨#[93, 10]⟩ : ByteArray)).size ≤ 9223372036854775807 then (
                            law17_write_L3 w L fu0 (s_1 ++ (((((((⟨#[91]⟩ : ByteArray) ++ q16.1) ++ (⟨#[44, 32, 34]⟩ : ByteArray)) ++ (⟨#[114]⟩ : ByteArray)) ++ (⟨#[34, 44, 32]⟩ : ByteArray)) ++ q17.1) ++ (⟨#[93, 10]⟩ : ByteArray))) l3 (IntKind.i64.wrap (x_2 + 1)) q17.2 K)
                          else (
                            none))
                        else (
                          none))
                      else (
                        none))
                    else (
                      none))
                  else (
                    none))
                else (
                  none))
              else (
                none))
            else (
              none))
          else (
            none))
        else
        bif (x8 == 3) then (
          (w.json_Time x7 σ).bind fun q18 =>
          if (⟨#[91]⟩ : ByteArray).size + q18.1.size ≤ 9223372036854775807 then (
            if ((⟨#[91]⟩ : ByteArray) ++ q18.1).size + (⟨#[44, 32, 34]⟩ : ByteArray).size ≤ 9223372036854775807 then (
              if (((⟨#[91]⟩ : ByteArray) ++ q18.1) ++ (⟨#[44, 32, 34]⟩ : ByteArray)).size + (⟨#[109]⟩ : ByteArray).size ≤ 9223372036854775807 then (
                if ((((⟨#[91]⟩ : ByteArray) ++ q18.1) ++ (⟨#[44, 32, 34]⟩ : ByteArray)) ++ (⟨#[109]⟩ : ByteArray)).size + (⟨#[34, 44, 32]⟩ : ByteArray).size ≤ 9223372036854775807 then (
                  (w.json_Quote x9 q18.2).bind fun q19 =>
                  if (((((⟨#[91]⟩ : ByteArray) ++ q18.1) ++ (⟨#[44, 32, 34]⟩ : ByteArray)) ++ (⟨#[109]⟩ : ByteArray)) ++ (⟨#[34, 44, 32]⟩ : ByteArray)).size + q19.1.size ≤ 9223372036854775807 then (
                    if ((((((⟨#[91]⟩ : ByteArray) ++ q18.1) ++ (⟨#[44, 32, 34]⟩ : ByteArray)) ++ (⟨#[109]⟩ : ByteArray)) ++ (⟨#[34, 44, 32]⟩ : ByteArray)) ++ q19.1).size + (⟨#[93, 10]⟩ : ByteArray).size ≤ 9223372036854775807 then (
                      if s_1.size + (((((((⟨#[91]⟩ : ByteArray) ++ q18.1) ++ (⟨#[44, 32, 34]⟩ : ByteArray)) ++ (⟨#[109]⟩ : ByteArray)) ++ (⟨#[34, 44, 32]⟩ : ByteArray)) ++ q19.1) ++ (⟨#[93, 10]⟩ : ByteArray)).size ≤ 9223372036854775807 then (
                        law17_write_L3 w L fu0 (s_1 ++ (((((((⟨#[91]⟩ : ByteArray) ++ q18.1) ++ (⟨#[44, 32, 34]⟩ : ByteArray)) ++ (⟨#[109]⟩ : ByteArray)) ++ (⟨#[34, 44, 32]⟩ : ByteArray)) ++ q19.1) ++ (⟨#[93, 10]⟩ : ByteArray))) l3 (IntKind.i64.wrap (x_2 + 1)) q19.2 K)
                      else (
                        none))
                    else (
                      none))
                  else (
                    none))
                else (
                  none))
              else (
                none))
            else (
              none))
          else (
            none))
        else
        (w.json_Time x7 σ).bind fun q20 =>
        if (⟨#[91]⟩ : ByteArray).size + q20.1.size ≤ 9223372036854775807 then (
          if ((⟨#[91]⟩ : ByteArray) ++ q20.1).size + (⟨#[44, 32, 34]⟩ : ByteArray).size ≤ 9223372036854775807 then (
            if (((⟨#[91]⟩ : ByteArray) ++ q20.1) ++ (⟨#[44, 32, 34]⟩ : ByteArray)).size + (⟨#[111]⟩ : ByteArray).size ≤ 9223372036854775807 then (
              if ((((⟨#[91]⟩ : ByteArray) ++ q20.1) ++ (⟨#[44, 32, 34]⟩ : ByteArray)) ++ (⟨#[111]⟩ : ByteArray)).size + (⟨#[34, 44, 32]⟩ : ByteArray).size ≤ 9223372036854775807 then (
                (w.json_Quote x9 q20.2).bind fun q21 =>
                if (((((⟨#[91]⟩ : ByteArray) ++ q20.1) ++ (⟨#[44, 32, 34]⟩ : ByteArray)) ++ (⟨#[111]⟩ : ByteArray)) ++ (⟨#[34, 44, 32]⟩ : ByteArray)).size + q21.1.size ≤ 9223372036854775807 then (
                  if ((((((⟨#[91]⟩ : ByteArray) ++ q20.1) ++ (⟨#[44, 32, 34]⟩ : ByteArray)) ++ (⟨#[111]⟩ : ByteArray)) ++ (⟨#[34, 44, 32]⟩ : ByteArray)) ++ q21.1).size + (⟨#[93, 10]⟩ : ByteArray).size ≤ 9223372036854775807 then (
                    if s_1.size + (((((((⟨#[91]⟩ : ByteArray) ++ q20.1) ++ (⟨#[44, 32, 34]⟩ : ByteArray)) ++ (⟨#[111]⟩ : ByteArray)) ++ (⟨#[34, 44, 32]⟩ : ByteArray)) ++ q21.1) ++ (⟨#[93, 10]⟩ : ByteArray)).size ≤ 9223372036854775807 then (
                      law17_write_L3 w L fu0 (s_1 ++ (((((((⟨#[91]⟩ : ByteArray) ++ q20.1) ++ (⟨#[44, 32, 34]⟩ : ByteArray)) ++ (⟨#[111]⟩ : ByteArray)) ++ (⟨#[34, 44, 32]⟩ : ByteArray)) ++ q21.1) ++ (⟨#[93, 10]⟩ : ByteArray))) l3 (IntKind.i64.wrap (x_2 + 1)) q21.2 K)
                    else (
                      none))
                  else (
                    none))
                else (
                  none))
              else (
                none))
            else (
              none))
          else (
            none))
        else (
          none))
      else none)
    else K (.str s_1) σ := by kernel_rfl
set_option maxRecDepth 100000 in
theorem law17_write_eq {R : Type} (w : C_law17_write) (L : Nat) (w1 : Int) (h2 : Int) (l3 : Sl) (σ : Heap) (K : AVal → Heap → Option R) :
    callC T (O_law17_write w) L 2 19 [.int .i64 w1, .int .i64 h2, .slice l3.b l3.o l3.n 5] σ K =
    (w.strconv_Itoa w1 σ).bind fun q4 =>
    if (⟨#[123, 34, 118, 101, 114, 115, 105, 111, 110, 34, 58, 32, 50, 44, 32, 34, 119, 105, 100, 116, 104, 34, 58, 32]⟩ : ByteArray).size + q4.1.size ≤ 9223372036854775807 then (
      if ((⟨#[123, 34, 118, 101, 114, 115, 105, 111, 110, 34, 58, 32, 50, 44, 32, 34, 119, 105, 100, 116, 104, 34, 58, 32]⟩ : ByteArray) ++ q4.1).size + (⟨#[44, 32, 34, 104, 101, 105, 103, 104, 116, 34, 58, 32]⟩ : ByteArray).size ≤ 9223372036854775807 then (
        (w.strconv_Itoa h2 q4.2).bind fun q5 =>
        if (((⟨#[123, 34, 118, 101, 114, 115, 105, 111, 110, 34, 58, 32, 50, 44, 32, 34, 119, 105, 100, 116, 104, 34, 58, 32]⟩ : ByteArray) ++ q4.1) ++ (⟨#[44, 32, 34, 104, 101, 105, 103, 104, 116, 34, 58, 32]⟩ : ByteArray)).size + q5.1.size ≤ 9223372036854775807 then (
          if ((((⟨#[123, 34, 118, 101, 114, 115, 105, 111, 110, 34, 58, 32, 50, 44, 32, 34, 119, 105, 100, 116, 104, 34, 58, 32]⟩ : ByteArray) ++ q4.1) ++ (⟨#[44, 32, 34, 104, 101, 105, 103, 104, 116, 34, 58, 32]⟩ : ByteArray)) ++ q5.1).size + (⟨#[125, 10]⟩ : ByteArray).size ≤ 9223372036854775807 then (
            law17_write_L3 w L L (((((⟨#[123, 34, 118, 101, 114, 115, 105, 111, 110, 34, 58, 32, 50, 44, 32, 34, 119, 105, 100, 116, 104, 34, 58, 32]⟩ : ByteArray) ++ q4.1) ++ (⟨#[44, 32, 34, 104, 101, 105, 103, 104, 116, 34, 58, 32]⟩ : ByteArray)) ++ q5.1) ++ (⟨#[125, 10]⟩ : ByteArray)) l3 0 q5.2 K)
          else (
            none))
        else (
          none))
      else (
        none))
    else (
      none) := by kernel_rfl
/-! law17_CastWrites -/
set_option maxRecDepth 100000 in
theorem law17_CastWrites_eq {R : Type} (w : C_law17_CastWrites) (L : Nat) (w1 : Int) (h2 : Int) (l3 : Sl) (σ : Heap) (K : AVal → Heap → Option R) :
    callC T (O_law17_CastWrites w) L 2 4 [.int .i64 w1, .int .i64 h2, .slice l3.b l3.o l3.n 5] σ K =
    (w.law17_fit σ).bind fun q4 =>
    bif (!q4.1) then (
      K (.bool false) q4.2)
    else
    bif (decide ((l3.n : Int) > 60)) then (
      K (.bool true) q4.2)
    else
    (w.ref12_Tame l3 q4.2).bind fun q5 =>
    (w.cast_Export (IntKind.i64.wrap (BitVec.ofInt IntKind.i64.bits w1 &&& BitVec.ofInt IntKind.i64.bits 4611686018427387903).toNat) (IntKind.i64.wrap (BitVec.ofInt IntKind.i64.bits h2 &&& BitVec.ofInt IntKind.i64.bits 4611686018427387903).toNat) q5.1 q5.2).bind fun q6 =>
    (w.law17_write (IntKind.i64.wrap (BitVec.ofInt IntKind.i64.bits w1 &&& BitVec.ofInt IntKind.i64.bits 4611686018427387903).toNat) (IntKind.i64.wrap (BitVec.ofInt IntKind.i64.bits h2 &&& BitVec.ofInt IntKind.i64.bits 4611686018427387903).toNat) q5.1 q6.2).bind fun q7 =>
    K (.bool (q6.1.toList == q7.1.toList)) q7.2 := by kernel_rfl
/-! law17_CastLines -/
noncomputable def law17_CastLines_L9 {R : Type} (w : C_law17_CastLines) (L fu0 : Nat) (l_1 : Sl) (s_2 : ByteArray) (n_4 : Int) (x_3 : Int) (x_5 : Int) (σ : Heap) (K : AVal → Heap → Option R) : Option R :=
  loopAt T (O_law17_CastLines w) L 1 5 Tryd.f5 [1, 1, 1, 1, 1, 1, 0, 1, 0] [] fu0
    ([.slice l_1.b l_1.o l_1.n 5, .undef, .undef, .str s_2, .int .i64 n_4] ++ List.replicate 11 .undef ++ [.int .i64 x_3, .int .i64 x_5] ++ List.replicate 22 .undef)
    (List.replicate 40 .none) σ K
set_option maxRecDepth 100000 in
theorem law17_CastLines_L9_eq {R : Type} (w : C_law17_CastLines) (L fu0 : Nat) (l_1 : Sl) (s_2 : ByteArray) (n_4 : Int) (x_3 : Int) (x_5 : Int) (σ : Heap) (K : AVal → Heap → Option R) :
    law17_CastLines_L9 w L (fu0 + 1) l_1 s_2 n_4 x_3 x_5 σ K =
    bif (decide (x_5 < x_3)) then (
      bif ((decide (0 ≤ x_5)) && (decide (x_5 < (s_2.size : Int)))) then (
        bif (((s_2.data.toList.getD x_5.toNat 0).toNat : Int) == 10) then (
          law17_CastLines_L9 w L fu0 l_1 s_2 (IntKind.i64.wrap (n_4 + 1)) x_3 (IntKind.i64.wrap (x_5 + 1)) σ K)
        else
        law17_CastLines_L9 w L fu0 l_1 s_2 n_4 x_3 (IntKind.i64.wrap (x_5 + 1)) σ K)
      else none)
    else
    bif (n_4 == (IntKind.i64.wrap ((l_1.n : Int) + 1))) then (
      bif ((decide (0 ≤ (IntKind.i64.wrap ((s_2.size : Int) - 1)))) && (decide ((IntKind.i64.wrap ((s_2.size : Int) - 1)) < (s_2.size : Int)))) then (
        K (.bool (((s_2.data.toList.getD ((IntKind.i64.wrap ((s_2.size : Int) - 1)).toNat) 0).toNat : Int) == 10)) σ)
      else
      none)
    else K (.bool false) σ := by kernel_rfl
set_option maxRecDepth 100000 in
theorem law17_CastLines_eq {R : Type} (w : C_law17_CastLines) (L : Nat) (l1 : Sl) (σ : Heap) (K : AVal → Heap → Option R) :
    callC T (O_law17_CastLines w) L 2 5 [.slice l1.b l1.o l1.n 5] σ K =
    (w.law17_fit σ).bind fun q2 =>
    bif (!q2.1) then (
      K (.bool false) q2.2)
    else
    bif (decide ((l1.n : Int) > 60)) then (
      K (.bool true) q2.2)
    else
    (w.ref12_Tame l1 q2.2).bind fun q3 =>
    (w.cast_Export 0 0 q3.1 q3.2).bind fun q4 =>
    law17_CastLines_L9 w L L q3.1 q4.1 0 (q4.1.size : Int) 0 q4.2 K := by kernel_rfl
/-! unicode_utf8_word -/
set_option maxRecDepth 100000 in
theorem unicode_utf8_word_eq {R : Type} (L : Nat) (s1 : ByteArray) (σ : Heap) (K : AVal → Heap → Option R) :
    callC T known0 L 2 44 [.str s1] σ K =
    bif (decide (0 < (s1.size : Int))) then (
      bif (decide (1 < (s1.size : Int))) then (
        bif (decide (2 < (s1.size : Int))) then (
          bif (decide (3 < (s1.size : Int))) then (
            bif (decide (4 < (s1.size : Int))) then (
              bif (decide (5 < (s1.size : Int))) then (
                bif (decide (6 < (s1.size : Int))) then (
                  bif (decide (7 < (s1.size : Int))) then (
                    K (.int .u64 (IntKind.u64.wrap (BitVec.ofInt IntKind.u64.bits (IntKind.u64.wrap (BitVec.ofInt IntKind.u64.bits (IntKind.u64.wrap (BitVec.ofInt IntKind.u64.bits (IntKind.u64.wrap (BitVec.ofInt IntKind.u64.bits (IntKind.u64.wrap (BitVec.ofInt IntKind.u64.bits (IntKind.u64.wrap (BitVec.ofInt IntKind.u64.bits (IntKind.u64.wrap (BitVec.ofInt IntKind.u64.bits (IntKind.u64.wrap ((s1.data.toList.getD 0 0).toNat : Int)) ||| BitVec.ofInt IntKind.u64.bits (IntKind.u64.wrap ((IntKind.u64.wrap ((s1.data.toList.getD 1 0).toNat : Int)) * 2 ^ 8))).toNat) ||| BitVec.ofInt IntKind.u64.bits (IntKind.u64.wrap ((IntKind.u64.wrap ((s1.data.toList.getD 2 0).toNat : Int)) * 2 ^ 16))).toNat) ||| BitVec.ofInt IntKind.u64.bits (IntKind.u64.wrap ((IntKind.u64.wrap ((s1.data.toList.getD 3 0).toNat : Int)) * 2 ^ 24))).toNat) ||| BitVec.ofInt IntKind.u64.bits (IntKind.u64.wrap ((IntKind.u64.wrap ((s1.data.toList.getD 4 0).toNat : Int)) * 2 ^ 32))).toNat) ||| BitVec.ofInt IntKind.u64.bits (IntKind.u64.wrap ((IntKind.u64.wrap ((s1.data.toList.getD 5 0).toNat : Int)) * 2 ^ 40))).toNat) ||| BitVec.ofInt IntKind.u64.bits (IntKind.u64.wrap ((IntKind.u64.wrap ((s1.data.toList.getD 6 0).toNat : Int)) * 2 ^ 48))).toNat) ||| BitVec.ofInt IntKind.u64.bits (IntKind.u64.wrap ((IntKind.u64.wrap ((s1.data.toList.getD 7 0).toNat : Int)) * 2 ^ 56))).toNat)) σ)
                  else
                  none)
                else none)
              else none)
            else none)
          else none)
        else none)
      else none)
    else none := by kernel_rfl
end Go.Abs.TB
