/-
What is known of each function, by its callees.
-/
import Derived.Test.YtohlebkhlbcnaaaDoorTypB
namespace Go.Abs.TB
open Go Go.Abs Go.Proofs
def Ok_unicode_utf8_appendRuneNonASCII (w : Sl → Int → Heap → Option (Sl × Heap)) : Prop := ∀ x0 x1 σ v σ', w x0 x1 σ = some (v, σ') → CallOK Tryd.prog T 41 [(tSl 1).av x0, (tInt .i32).av x1] σ ((tSl 1).av v) σ'
theorem fn_unicode_utf8_appendRuneNonASCII : T.fn 41 = some Tryd.f41 := by kernel_rfl
def Ok_unicode_utf8_AppendRune (w : Sl → Int → Heap → Option (Sl × Heap)) : Prop := ∀ x0 x1 σ v σ', w x0 x1 σ = some (v, σ') → CallOK Tryd.prog T 29 [(tSl 1).av x0, (tInt .i32).av x1] σ ((tSl 1).av v) σ'
theorem fn_unicode_utf8_AppendRune : T.fn 29 = some Tryd.f29 := by kernel_rfl
def Ok_json_Quote (w : ByteArray → Heap → Option (ByteArray × Heap)) : Prop := ∀ x0 σ v σ', w x0 σ = some (v, σ') → CallOK Tryd.prog T 15 [tStr.av x0] σ (tStr.av v) σ'
theorem fn_json_Quote : T.fn 15 = some Tryd.f15 := by kernel_rfl
def Ok_internal_strconv_small (w : Int → Heap → Option (ByteArray × Heap)) : Prop := ∀ x0 σ v σ', w x0 σ = some (v, σ') → CallOK Tryd.prog T 61 [(tInt .i64).av x0] σ (tStr.av v) σ'
theorem fn_internal_strconv_small : T.fn 61 = some Tryd.f61 := by kernel_rfl
def Ok_internal_strconv_log10Pow2 (w : Int → Heap → Option (Int × Heap)) : Prop := ∀ x0 σ v σ', w x0 σ = some (v, σ') → CallOK Tryd.prog T 69 [(tInt .i64).av x0] σ ((tInt .i64).av v) σ'
theorem fn_internal_strconv_log10Pow2 : T.fn 69 = some Tryd.f69 := by kernel_rfl
def Ok_math_bits_Len64 (w : Int → Heap → Option (Int × Heap)) : Prop := ∀ x0 σ v σ', w x0 σ = some (v, σ') → CallOK Tryd.prog T 70 [(tInt .u64).av x0] σ ((tInt .i64).av v) σ'
theorem fn_math_bits_Len64 : T.fn 70 = some Tryd.f70 := by kernel_rfl
def Ok_internal_strconv_bool2 (w : Bool → Heap → Option (Int × Heap)) : Prop := ∀ x0 σ v σ', w x0 σ = some (v, σ') → CallOK Tryd.prog T 71 [tBool.av x0] σ ((tInt .i64).av v) σ'
theorem fn_internal_strconv_bool2 : T.fn 71 = some Tryd.f71 := by kernel_rfl
def Ok_internal_strconv_numDigits (w : Int → Heap → Option (Int × Heap)) : Prop := ∀ x0 σ v σ', w x0 σ = some (v, σ') → CallOK Tryd.prog T 62 [(tInt .u64).av x0] σ ((tInt .i64).av v) σ'
theorem fn_internal_strconv_numDigits : T.fn 62 = some Tryd.f62 := by kernel_rfl
def Ok_internal_strconv_formatBase10 (w : Sl → Int → Heap → Option (Unit × Heap)) : Prop := ∀ x0 x1 σ v σ', w x0 x1 σ = some (v, σ') → CallOK Tryd.prog T 63 [(tSl 1).av x0, (tInt .u64).av x1] σ (tVoid.av v) σ'
theorem fn_internal_strconv_formatBase10 : T.fn 63 = some Tryd.f63 := by kernel_rfl
def Ok_internal_strconv_formatBits (w : Sl → Int → Int → Bool → Bool → Heap → Option ((Sl × ByteArray) × Heap)) : Prop := ∀ x0 x1 x2 x3 x4 σ v σ', w x0 x1 x2 x3 x4 σ = some (v, σ') → CallOK Tryd.prog T 64 [(tSl 1).av x0, (tInt .u64).av x1, (tInt .i64).av x2, tBool.av x3, tBool.av x4] σ ((tPair (tSl 1) tStr).av v) σ'
theorem fn_internal_strconv_formatBits : T.fn 64 = some Tryd.f64 := by kernel_rfl
def Ok_internal_strconv_FormatInt (w : Int → Int → Heap → Option (ByteArray × Heap)) : Prop := ∀ x0 x1 σ v σ', w x0 x1 σ = some (v, σ') → CallOK Tryd.prog T 54 [(tInt .i64).av x0, (tInt .i64).av x1] σ (tStr.av v) σ'
theorem fn_internal_strconv_FormatInt : T.fn 54 = some Tryd.f54 := by kernel_rfl
def Ok_internal_strconv_Itoa (w : Int → Heap → Option (ByteArray × Heap)) : Prop := ∀ x0 σ v σ', w x0 σ = some (v, σ') → CallOK Tryd.prog T 43 [(tInt .i64).av x0] σ (tStr.av v) σ'
theorem fn_internal_strconv_Itoa : T.fn 43 = some Tryd.f43 := by kernel_rfl
def Ok_strconv_Itoa (w : Int → Heap → Option (ByteArray × Heap)) : Prop := ∀ x0 σ v σ', w x0 σ = some (v, σ') → CallOK Tryd.prog T 31 [(tInt .i64).av x0] σ (tStr.av v) σ'
theorem fn_strconv_Itoa : T.fn 31 = some Tryd.f31 := by kernel_rfl
def Ok_json_Time (w : Int → Heap → Option (ByteArray × Heap)) : Prop := ∀ x0 σ v σ', w x0 σ = some (v, σ') → CallOK Tryd.prog T 23 [(tInt .i64).av x0] σ (tStr.av v) σ'
theorem fn_json_Time : T.fn 23 = some Tryd.f23 := by kernel_rfl
def Ok_law03_fit (w : Heap → Option (Bool × Heap)) : Prop := ∀ σ v σ', w σ = some (v, σ') → CallOK Tryd.prog T 14 [] σ (tBool.av v) σ'
theorem fn_law03_fit : T.fn 14 = some Tryd.f14 := by kernel_rfl
def Ok_law03_JsonSigns (w : ByteArray → Heap → Option (Bool × Heap)) : Prop := ∀ x0 σ v σ', w x0 σ = some (v, σ') → CallOK Tryd.prog T 3 [tStr.av x0] σ (tBool.av v) σ'
theorem fn_law03_JsonSigns : T.fn 3 = some Tryd.f3 := by kernel_rfl
def Ok_strings_Builder_copyCheck (w : Pt → Heap → Option (Unit × Heap)) : Prop := ∀ x0 σ v σ', w x0 σ = some (v, σ') → CallOK Tryd.prog T 42 [tPtr.av x0] σ (tVoid.av v) σ'
theorem fn_strings_Builder_copyCheck : T.fn 42 = some Tryd.f42 := by kernel_rfl
def Ok_strings_Builder_WriteString (w : Pt → ByteArray → Heap → Option ((Int × Er) × Heap)) : Prop := ∀ x0 x1 σ v σ', w x0 x1 σ = some (v, σ') → CallOK Tryd.prog T 30 [tPtr.av x0, tStr.av x1] σ ((tPair (tInt .i64) tErr).av v) σ'
theorem fn_strings_Builder_WriteString : T.fn 30 = some Tryd.f30 := by kernel_rfl
def Ok_strings_Builder_String (w : Pt → Heap → Option (ByteArray × Heap)) : Prop := ∀ x0 σ v σ', w x0 σ = some (v, σ') → CallOK Tryd.prog T 32 [tPtr.av x0] σ (tStr.av v) σ'
theorem fn_strings_Builder_String : T.fn 32 = some Tryd.f32 := by kernel_rfl
def Ok_cast_Export (w : Int → Int → Sl → Heap → Option (ByteArray × Heap)) : Prop := ∀ x0 x1 x2 σ v σ', w x0 x1 x2 σ = some (v, σ') → CallOK Tryd.prog T 18 [(tInt .i64).av x0, (tInt .i64).av x1, (tSl 5).av x2] σ (tStr.av v) σ'
theorem fn_cast_Export : T.fn 18 = some Tryd.f18 := by kernel_rfl
def Ok_law17_fit (w : Heap → Option (Bool × Heap)) : Prop := ∀ σ v σ', w σ = some (v, σ') → CallOK Tryd.prog T 16 [] σ (tBool.av v) σ'
theorem fn_law17_fit : T.fn 16 = some Tryd.f16 := by kernel_rfl
def Ok_ref12_Tame (w : Sl → Heap → Option (Sl × Heap)) : Prop := ∀ x0 σ v σ', w x0 σ = some (v, σ') → CallOK Tryd.prog T 17 [(tSl 5).av x0] σ ((tSl 5).av v) σ'
theorem fn_ref12_Tame : T.fn 17 = some Tryd.f17 := by kernel_rfl
def Ok_law17_write (w : Int → Int → Sl → Heap → Option (ByteArray × Heap)) : Prop := ∀ x0 x1 x2 σ v σ', w x0 x1 x2 σ = some (v, σ') → CallOK Tryd.prog T 19 [(tInt .i64).av x0, (tInt .i64).av x1, (tSl 5).av x2] σ (tStr.av v) σ'
theorem fn_law17_write : T.fn 19 = some Tryd.f19 := by kernel_rfl
def Ok_law17_CastWrites (w : Int → Int → Sl → Heap → Option (Bool × Heap)) : Prop := ∀ x0 x1 x2 σ v σ', w x0 x1 x2 σ = some (v, σ') → CallOK Tryd.prog T 4 [(tInt .i64).av x0, (tInt .i64).av x1, (tSl 5).av x2] σ (tBool.av v) σ'
theorem fn_law17_CastWrites : T.fn 4 = some Tryd.f4 := by kernel_rfl
def Ok_law17_CastLines (w : Sl → Heap → Option (Bool × Heap)) : Prop := ∀ x0 σ v σ', w x0 σ = some (v, σ') → CallOK Tryd.prog T 5 [(tSl 5).av x0] σ (tBool.av v) σ'
theorem fn_law17_CastLines : T.fn 5 = some Tryd.f5 := by kernel_rfl
def Ok_unicode_utf8_word (w : ByteArray → Heap → Option (Int × Heap)) : Prop := ∀ x0 σ v σ', w x0 σ = some (v, σ') → CallOK Tryd.prog T 44 [tStr.av x0] σ ((tInt .u64).av v) σ'
theorem fn_unicode_utf8_word : T.fn 44 = some Tryd.f44 := by kernel_rfl
def Ok_unicode_utf8_ValidString (w : ByteArray → Heap → Option (Bool × Heap)) : Prop := ∀ x0 σ v σ', w x0 σ = some (v, σ') → CallOK Tryd.prog T 33 [tStr.av x0] σ (tBool.av v) σ'
theorem fn_unicode_utf8_ValidString : T.fn 33 = some Tryd.f33 := by kernel_rfl
def Ok_json_hex (w : Int → Heap → Option (Int × Heap)) : Prop := ∀ x0 σ v σ', w x0 σ = some (v, σ') → CallOK Tryd.prog T 45 [(tInt .u8).av x0] σ ((tInt .i64).av v) σ'
theorem fn_json_hex : T.fn 45 = some Tryd.f45 := by kernel_rfl
def Ok_json_escape (w : ByteArray → Heap → Option ((Int × Int) × Heap)) : Prop := ∀ x0 σ v σ', w x0 σ = some (v, σ') → CallOK Tryd.prog T 34 [tStr.av x0] σ ((tPair (tInt .u8) (tInt .i64)).av v) σ'
theorem fn_json_escape : T.fn 34 = some Tryd.f34 := by kernel_rfl
def Ok_json_Unquote (w : ByteArray → Heap → Option ((ByteArray × ByteArray × Bool) × Heap)) : Prop := ∀ x0 σ v σ', w x0 σ = some (v, σ') → CallOK Tryd.prog T 20 [tStr.av x0] σ ((tTrip tStr tStr tBool).av v) σ'
theorem fn_json_Unquote : T.fn 20 = some Tryd.f20 := by kernel_rfl
def Ok_law03_whole (w : ByteArray → Heap → Option (ByteArray × Heap)) : Prop := ∀ x0 σ v σ', w x0 σ = some (v, σ') → CallOK Tryd.prog T 21 [tStr.av x0] σ (tStr.av v) σ'
theorem fn_law03_whole : T.fn 21 = some Tryd.f21 := by kernel_rfl
def Ok_law03_JsonTexts (w : ByteArray → ByteArray → Heap → Option (Bool × Heap)) : Prop := ∀ x0 x1 σ v σ', w x0 x1 σ = some (v, σ') → CallOK Tryd.prog T 6 [tStr.av x0, tStr.av x1] σ (tBool.av v) σ'
theorem fn_law03_JsonTexts : T.fn 6 = some Tryd.f6 := by kernel_rfl
def Ok_law03_JsonAny (w : ByteArray → Heap → Option (Bool × Heap)) : Prop := ∀ x0 σ v σ', w x0 σ = some (v, σ') → CallOK Tryd.prog T 7 [tStr.av x0] σ (tBool.av v) σ'
theorem fn_law03_JsonAny : T.fn 7 = some Tryd.f7 := by kernel_rfl
def Ok_internal_strconv_lower (w : Int → Heap → Option (Int × Heap)) : Prop := ∀ x0 σ v σ', w x0 σ = some (v, σ') → CallOK Tryd.prog T 74 [(tInt .u8).av x0] σ ((tInt .u8).av v) σ'
theorem fn_internal_strconv_lower : T.fn 74 = some Tryd.f74 := by kernel_rfl
def Ok_internal_strconv_underscoreOK (w : ByteArray → Heap → Option (Bool × Heap)) : Prop := ∀ x0 σ v σ', w x0 σ = some (v, σ') → CallOK Tryd.prog T 75 [tStr.av x0] σ (tBool.av v) σ'
theorem fn_internal_strconv_underscoreOK : T.fn 75 = some Tryd.f75 := by kernel_rfl
def Ok_internal_strconv_ParseUint (w : ByteArray → Int → Int → Heap → Option ((Int × Er) × Heap)) : Prop := ∀ x0 x1 x2 σ v σ', w x0 x1 x2 σ = some (v, σ') → CallOK Tryd.prog T 65 [tStr.av x0, (tInt .i64).av x1, (tInt .i64).av x2] σ ((tPair (tInt .u64) tErr).av v) σ'
theorem fn_internal_strconv_ParseUint : T.fn 65 = some Tryd.f65 := by kernel_rfl
def Ok_internal_strconv_ParseInt (w : ByteArray → Int → Int → Heap → Option ((Int × Er) × Heap)) : Prop := ∀ x0 x1 x2 σ v σ', w x0 x1 x2 σ = some (v, σ') → CallOK Tryd.prog T 55 [tStr.av x0, (tInt .i64).av x1, (tInt .i64).av x2] σ ((tPair (tInt .i64) tErr).av v) σ'
theorem fn_internal_strconv_ParseInt : T.fn 55 = some Tryd.f55 := by kernel_rfl
def Ok_internal_strconv_Atoi (w : ByteArray → Heap → Option ((Int × Er) × Heap)) : Prop := ∀ x0 σ v σ', w x0 σ = some (v, σ') → CallOK Tryd.prog T 46 [tStr.av x0] σ ((tPair (tInt .i64) tErr).av v) σ'
theorem fn_internal_strconv_Atoi : T.fn 46 = some Tryd.f46 := by kernel_rfl
def Ok_strconv_toError (w : ByteArray → ByteArray → Int → Int → Er → Heap → Option (Er × Heap)) : Prop := ∀ x0 x1 x2 x3 x4 σ v σ', w x0 x1 x2 x3 x4 σ = some (v, σ') → CallOK Tryd.prog T 47 [tStr.av x0, tStr.av x1, (tInt .i64).av x2, (tInt .i64).av x3, tErr.av x4] σ (tErr.av v) σ'
theorem fn_strconv_toError : T.fn 47 = some Tryd.f47 := by kernel_rfl
def Ok_strconv_Atoi (w : ByteArray → Heap → Option ((Int × Er) × Heap)) : Prop := ∀ x0 σ v σ', w x0 σ = some (v, σ') → CallOK Tryd.prog T 35 [tStr.av x0] σ ((tPair (tInt .i64) tErr).av v) σ'
theorem fn_strconv_Atoi : T.fn 35 = some Tryd.f35 := by kernel_rfl
def Ok_json_Number (w : ByteArray → Heap → Option ((Int × ByteArray × Bool) × Heap)) : Prop := ∀ x0 σ v σ', w x0 σ = some (v, σ') → CallOK Tryd.prog T 22 [tStr.av x0] σ ((tTrip (tInt .i64) tStr tBool).av v) σ'
theorem fn_json_Number : T.fn 22 = some Tryd.f22 := by kernel_rfl
def Ok_law03_JsonNumbers (w : ByteArray → Heap → Option (Bool × Heap)) : Prop := ∀ x0 σ v σ', w x0 σ = some (v, σ') → CallOK Tryd.prog T 8 [tStr.av x0] σ (tBool.av v) σ'
theorem fn_law03_JsonNumbers : T.fn 8 = some Tryd.f8 := by kernel_rfl
def Ok_json_Untime (w : ByteArray → Heap → Option ((Int × ByteArray × Bool) × Heap)) : Prop := ∀ x0 σ v σ', w x0 σ = some (v, σ') → CallOK Tryd.prog T 24 [tStr.av x0] σ ((tTrip (tInt .i64) tStr tBool).av v) σ'
theorem fn_json_Untime : T.fn 24 = some Tryd.f24 := by kernel_rfl
def Ok_law03_JsonTimes (w : Int → ByteArray → Heap → Option (Bool × Heap)) : Prop := ∀ x0 x1 σ v σ', w x0 x1 σ = some (v, σ') → CallOK Tryd.prog T 9 [(tInt .i64).av x0, tStr.av x1] σ (tBool.av v) σ'
theorem fn_law03_JsonTimes : T.fn 9 = some Tryd.f9 := by kernel_rfl
def Ok_law03_JsonUntimes (w : ByteArray → Heap → Option (Bool × Heap)) : Prop := ∀ x0 σ v σ', w x0 σ = some (v, σ') → CallOK Tryd.prog T 10 [tStr.av x0] σ (tBool.av v) σ'
theorem fn_law03_JsonUntimes : T.fn 10 = some Tryd.f10 := by kernel_rfl
def Ok_law17_whole (w : ByteArray → Heap → Option (ByteArray × Heap)) : Prop := ∀ x0 σ v σ', w x0 σ = some (v, σ') → CallOK Tryd.prog T 25 [tStr.av x0] σ (tStr.av v) σ'
theorem fn_law17_whole : T.fn 25 = some Tryd.f25 := by kernel_rfl
def Ok_internal_stringslite_HasPrefix (w : ByteArray → ByteArray → Heap → Option (Bool × Heap)) : Prop := ∀ x0 x1 σ v σ', w x0 x1 σ = some (v, σ') → CallOK Tryd.prog T 68 [tStr.av x0, tStr.av x1] σ (tBool.av v) σ'
theorem fn_internal_stringslite_HasPrefix : T.fn 68 = some Tryd.f68 := by kernel_rfl
def Ok_internal_stringslite_CutPrefix (w : ByteArray → ByteArray → Heap → Option ((ByteArray × Bool) × Heap)) : Prop := ∀ x0 x1 σ v σ', w x0 x1 σ = some (v, σ') → CallOK Tryd.prog T 60 [tStr.av x0, tStr.av x1] σ ((tPair tStr tBool).av v) σ'
theorem fn_internal_stringslite_CutPrefix : T.fn 60 = some Tryd.f60 := by kernel_rfl
def Ok_strings_CutPrefix (w : ByteArray → ByteArray → Heap → Option ((ByteArray × Bool) × Heap)) : Prop := ∀ x0 x1 σ v σ', w x0 x1 σ = some (v, σ') → CallOK Tryd.prog T 48 [tStr.av x0, tStr.av x1] σ ((tPair tStr tBool).av v) σ'
theorem fn_strings_CutPrefix : T.fn 48 = some Tryd.f48 := by kernel_rfl
def Ok_cast_reader_skip (w : Pt → ByteArray → Heap → Option (Unit × Heap)) : Prop := ∀ x0 x1 σ v σ', w x0 x1 σ = some (v, σ') → CallOK Tryd.prog T 36 [tPtr.av x0, tStr.av x1] σ (tVoid.av v) σ'
theorem fn_cast_reader_skip : T.fn 36 = some Tryd.f36 := by kernel_rfl
def Ok_cast_reader_number (w : Pt → Heap → Option (Int × Heap)) : Prop := ∀ x0 σ v σ', w x0 σ = some (v, σ') → CallOK Tryd.prog T 37 [tPtr.av x0] σ ((tInt .i64).av v) σ'
theorem fn_cast_reader_number : T.fn 37 = some Tryd.f37 := by kernel_rfl
def Ok_cast_reader_time (w : Pt → Heap → Option (Int × Heap)) : Prop := ∀ x0 σ v σ', w x0 σ = some (v, σ') → CallOK Tryd.prog T 49 [tPtr.av x0] σ ((tInt .i64).av v) σ'
theorem fn_cast_reader_time : T.fn 49 = some Tryd.f49 := by kernel_rfl
def Ok_cast_reader_kind (w : Pt → Heap → Option (Int × Heap)) : Prop := ∀ x0 σ v σ', w x0 σ = some (v, σ') → CallOK Tryd.prog T 50 [tPtr.av x0] σ ((tInt .i64).av v) σ'
theorem fn_cast_reader_kind : T.fn 50 = some Tryd.f50 := by kernel_rfl
def Ok_cast_reader_text (w : Pt → Heap → Option (ByteArray × Heap)) : Prop := ∀ x0 σ v σ', w x0 σ = some (v, σ') → CallOK Tryd.prog T 51 [tPtr.av x0] σ (tStr.av v) σ'
theorem fn_cast_reader_text : T.fn 51 = some Tryd.f51 := by kernel_rfl
def Ok_cast_reader_event (w : Pt → Heap → Option (api_Event × Heap)) : Prop := ∀ x0 σ v σ', w x0 σ = some (v, σ') → CallOK Tryd.prog T 38 [tPtr.av x0] σ (t_api_Event.av v) σ'
theorem fn_cast_reader_event : T.fn 38 = some Tryd.f38 := by kernel_rfl
def Ok_event_Right (w : api_Event → Heap → Option (Bool × Heap)) : Prop := ∀ x0 σ v σ', w x0 σ = some (v, σ') → CallOK Tryd.prog T 52 [t_api_Event.av x0] σ (tBool.av v) σ'
theorem fn_event_Right : T.fn 52 = some Tryd.f52 := by kernel_rfl
def Ok_event_List (w : Sl → Heap → Option (Bool × Heap)) : Prop := ∀ x0 σ v σ', w x0 σ = some (v, σ') → CallOK Tryd.prog T 39 [(tSl 5).av x0] σ (tBool.av v) σ'
theorem fn_event_List : T.fn 39 = some Tryd.f39 := by kernel_rfl
def Ok_cast_Import (w : ByteArray → Heap → Option ((Int × Int × Sl × Int) × Heap)) : Prop := ∀ x0 σ v σ', w x0 σ = some (v, σ') → CallOK Tryd.prog T 26 [tStr.av x0] σ ((tQuad (tInt .i64) (tInt .i64) (tSl 5) (tInt .i64)).av v) σ'
theorem fn_cast_Import : T.fn 26 = some Tryd.f26 := by kernel_rfl
def Ok_ref12_Same (w : Sl → Sl → Heap → Option (Bool × Heap)) : Prop := ∀ x0 x1 σ v σ', w x0 x1 σ = some (v, σ') → CallOK Tryd.prog T 27 [(tSl 5).av x0, (tSl 5).av x1] σ (tBool.av v) σ'
theorem fn_ref12_Same : T.fn 27 = some Tryd.f27 := by kernel_rfl
def Ok_law17_CastBack (w : Int → Int → Sl → Heap → Option (Bool × Heap)) : Prop := ∀ x0 x1 x2 σ v σ', w x0 x1 x2 σ = some (v, σ') → CallOK Tryd.prog T 11 [(tInt .i64).av x0, (tInt .i64).av x1, (tSl 5).av x2] σ (tBool.av v) σ'
theorem fn_law17_CastBack : T.fn 11 = some Tryd.f11 := by kernel_rfl
def Ok_ref12_Right (w : api_Event → Heap → Option (Bool × Heap)) : Prop := ∀ x0 σ v σ', w x0 σ = some (v, σ') → CallOK Tryd.prog T 40 [t_api_Event.av x0] σ (tBool.av v) σ'
theorem fn_ref12_Right : T.fn 40 = some Tryd.f40 := by kernel_rfl
def Ok_ref12_List (w : Sl → Heap → Option (Bool × Heap)) : Prop := ∀ x0 σ v σ', w x0 σ = some (v, σ') → CallOK Tryd.prog T 28 [(tSl 5).av x0] σ (tBool.av v) σ'
theorem fn_ref12_List : T.fn 28 = some Tryd.f28 := by kernel_rfl
def Ok_law17_CastAny (w : ByteArray → Heap → Option (Bool × Heap)) : Prop := ∀ x0 σ v σ', w x0 σ = some (v, σ') → CallOK Tryd.prog T 12 [tStr.av x0] σ (tBool.av v) σ'
theorem fn_law17_CastAny : T.fn 12 = some Tryd.f12 := by kernel_rfl
def Ok_law17_CastSpoils (w : Sl → Int → Int → Heap → Option (Bool × Heap)) : Prop := ∀ x0 x1 x2 σ v σ', w x0 x1 x2 σ = some (v, σ') → CallOK Tryd.prog T 13 [(tSl 5).av x0, (tInt .i64).av x1, (tInt .u8).av x2] σ (tBool.av v) σ'
theorem fn_law17_CastSpoils : T.fn 13 = some Tryd.f13 := by kernel_rfl
def Ok_strconv_syntaxError (w : ByteArray → ByteArray → Heap → Option (Pt × Heap)) : Prop := ∀ x0 x1 σ v σ', w x0 x1 σ = some (v, σ') → CallOK Tryd.prog T 56 [tStr.av x0, tStr.av x1] σ (tPtr.av v) σ'
theorem fn_strconv_syntaxError : T.fn 56 = some Tryd.f56 := by kernel_rfl
def Ok_strconv_rangeError (w : ByteArray → ByteArray → Heap → Option (Pt × Heap)) : Prop := ∀ x0 x1 σ v σ', w x0 x1 σ = some (v, σ') → CallOK Tryd.prog T 57 [tStr.av x0, tStr.av x1] σ (tPtr.av v) σ'
theorem fn_strconv_rangeError : T.fn 57 = some Tryd.f57 := by kernel_rfl
def Ok_internal_stringslite_Clone (w : ByteArray → Heap → Option (ByteArray × Heap)) : Prop := ∀ x0 σ v σ', w x0 σ = some (v, σ') → CallOK Tryd.prog T 66 [tStr.av x0] σ (tStr.av v) σ'
theorem fn_internal_stringslite_Clone : T.fn 66 = some Tryd.f66 := by kernel_rfl
def Ok_errors_New (w : ByteArray → Heap → Option (Er × Heap)) : Prop := ∀ x0 σ v σ', w x0 σ = some (v, σ') → CallOK Tryd.prog T 67 [tStr.av x0] σ (tErr.av v) σ'
theorem fn_errors_New : T.fn 67 = some Tryd.f67 := by kernel_rfl
def Ok_strconv_baseError (w : ByteArray → ByteArray → Int → Heap → Option (Pt × Heap)) : Prop := ∀ x0 x1 x2 σ v σ', w x0 x1 x2 σ = some (v, σ') → CallOK Tryd.prog T 58 [tStr.av x0, tStr.av x1, (tInt .i64).av x2] σ (tPtr.av v) σ'
theorem fn_strconv_baseError : T.fn 58 = some Tryd.f58 := by kernel_rfl
def Ok_strconv_bitSizeError (w : ByteArray → ByteArray → Int → Heap → Option (Pt × Heap)) : Prop := ∀ x0 x1 x2 σ v σ', w x0 x1 x2 σ = some (v, σ') → CallOK Tryd.prog T 59 [tStr.av x0, tStr.av x1, (tInt .i64).av x2] σ (tPtr.av v) σ'
theorem fn_strconv_bitSizeError : T.fn 59 = some Tryd.f59 := by kernel_rfl
def Ok_internal_strconv_isPowerOfTwo (w : Int → Heap → Option (Bool × Heap)) : Prop := ∀ x0 σ v σ', w x0 σ = some (v, σ') → CallOK Tryd.prog T 72 [(tInt .i64).av x0] σ (tBool.av v) σ'
theorem fn_internal_strconv_isPowerOfTwo : T.fn 72 = some Tryd.f72 := by kernel_rfl
def Ok_math_bits_TrailingZeros (w : Int → Heap → Option (Int × Heap)) : Prop := ∀ x0 σ v σ', w x0 σ = some (v, σ') → CallOK Tryd.prog T 73 [(tInt .u64).av x0] σ ((tInt .i64).av v) σ'
theorem fn_math_bits_TrailingZeros : T.fn 73 = some Tryd.f73 := by kernel_rfl
def Ok_math_bits_TrailingZeros32 (w : Int → Heap → Option (Int × Heap)) : Prop := ∀ x0 σ v σ', w x0 σ = some (v, σ') → CallOK Tryd.prog T 76 [(tInt .u32).av x0] σ ((tInt .i64).av v) σ'
theorem fn_math_bits_TrailingZeros32 : T.fn 76 = some Tryd.f76 := by kernel_rfl
def Ok_math_bits_TrailingZeros64 (w : Int → Heap → Option (Int × Heap)) : Prop := ∀ x0 σ v σ', w x0 σ = some (v, σ') → CallOK Tryd.prog T 77 [(tInt .u64).av x0] σ ((tInt .i64).av v) σ'
theorem fn_math_bits_TrailingZeros64 : T.fn 77 = some Tryd.f77 := by kernel_rfl
def Ok_gosem_cut_vars (w : Heap → Option (Unit × Heap)) : Prop := ∀ σ v σ', w σ = some (v, σ') → CallOK Tryd.prog T 108 [] σ (tVoid.av v) σ'
theorem fn_gosem_cut_vars : T.fn 108 = some Tryd.f108 := by kernel_rfl
structure C_unicode_utf8_AppendRune where
  unicode_utf8_appendRuneNonASCII : Sl → Int → Heap → Option (Sl × Heap)
noncomputable def O_unicode_utf8_AppendRune (w : C_unicode_utf8_AppendRune) : Known := (known0).and 41 (g2 (tSl 1) (tInt .i32) (tSl 1) w.unicode_utf8_appendRuneNonASCII)
theorem K_unicode_utf8_AppendRune (w : C_unicode_utf8_AppendRune) (h_unicode_utf8_appendRuneNonASCII : Ok_unicode_utf8_appendRuneNonASCII w.unicode_utf8_appendRuneNonASCII) : KnownOK Tryd.prog T (O_unicode_utf8_AppendRune w) :=
  known_ok ok (known0_ok) fn_unicode_utf8_appendRuneNonASCII (by kernel_rfl) (g2_ok h_unicode_utf8_appendRuneNonASCII)
structure C_json_Quote where
  unicode_utf8_AppendRune : Sl → Int → Heap → Option (Sl × Heap)
noncomputable def O_json_Quote (w : C_json_Quote) : Known := (known0).and 29 (g2 (tSl 1) (tInt .i32) (tSl 1) w.unicode_utf8_AppendRune)
theorem K_json_Quote (w : C_json_Quote) (h_unicode_utf8_AppendRune : Ok_unicode_utf8_AppendRune w.unicode_utf8_AppendRune) : KnownOK Tryd.prog T (O_json_Quote w) :=
  known_ok ok (known0_ok) fn_unicode_utf8_AppendRune (by kernel_rfl) (g2_ok h_unicode_utf8_AppendRune)
structure C_internal_strconv_numDigits where
  internal_strconv_log10Pow2 : Int → Heap → Option (Int × Heap)
  math_bits_Len64 : Int → Heap → Option (Int × Heap)
  internal_strconv_bool2 : Bool → Heap → Option (Int × Heap)
noncomputable def O_internal_strconv_numDigits (w : C_internal_strconv_numDigits) : Known := (((known0).and 69 (g1 (tInt .i64) (tInt .i64) w.internal_strconv_log10Pow2)).and 70 (g1 (tInt .u64) (tInt .i64) w.math_bits_Len64)).and 71 (g1 tBool (tInt .i64) w.internal_strconv_bool2)
theorem K_internal_strconv_numDigits (w : C_internal_strconv_numDigits) (h_internal_strconv_log10Pow2 : Ok_internal_strconv_log10Pow2 w.internal_strconv_log10Pow2) (h_math_bits_Len64 : Ok_math_bits_Len64 w.math_bits_Len64) (h_internal_strconv_bool2 : Ok_internal_strconv_bool2 w.internal_strconv_bool2) : KnownOK Tryd.prog T (O_internal_strconv_numDigits w) :=
  known_ok ok (known_ok ok (known_ok ok (known0_ok) fn_internal_strconv_log10Pow2 (by kernel_rfl) (g1_ok h_internal_strconv_log10Pow2)) fn_math_bits_Len64 (by kernel_rfl) (g1_ok h_math_bits_Len64)) fn_internal_strconv_bool2 (by kernel_rfl) (g1_ok h_internal_strconv_bool2)
structure C_internal_strconv_FormatInt where
  internal_strconv_small : Int → Heap → Option (ByteArray × Heap)
  internal_strconv_numDigits : Int → Heap → Option (Int × Heap)
  internal_strconv_formatBase10 : Sl → Int → Heap → Option (Unit × Heap)
  internal_strconv_formatBits : Sl → Int → Int → Bool → Bool → Heap → Option ((Sl × ByteArray) × Heap)
noncomputable def O_internal_strconv_FormatInt (w : C_internal_strconv_FormatInt) : Known := ((((known0).and 61 (g1 (tInt .i64) tStr w.internal_strconv_small)).and 62 (g1 (tInt .u64) (tInt .i64) w.internal_strconv_numDigits)).and 63 (g2 (tSl 1) (tInt .u64) tVoid w.internal_strconv_formatBase10)).and 64 (g5 (tSl 1) (tInt .u64) (tInt .i64) tBool tBool (tPair (tSl 1) tStr) w.internal_strconv_formatBits)
theorem K_internal_strconv_FormatInt (w : C_internal_strconv_FormatInt) (h_internal_strconv_small : Ok_internal_strconv_small w.internal_strconv_small) (h_internal_strconv_numDigits : Ok_internal_strconv_numDigits w.internal_strconv_numDigits) (h_internal_strconv_formatBase10 : Ok_internal_strconv_formatBase10 w.internal_strconv_formatBase10) (h_internal_strconv_formatBits : Ok_internal_strconv_formatBits w.internal_strconv_formatBits) : KnownOK Tryd.prog T (O_internal_strconv_FormatInt w) :=
  known_ok ok (known_ok ok (known_ok ok (known_ok ok (known0_ok) fn_internal_strconv_small (by kernel_rfl) (g1_ok h_internal_strconv_small)) fn_internal_strconv_numDigits (by kernel_rfl) (g1_ok h_internal_strconv_numDigits)) fn_internal_strconv_formatBase10 (by kernel_rfl) (g2_ok h_internal_strconv_formatBase10)) fn_internal_strconv_formatBits (by kernel_rfl) (g5_ok h_internal_strconv_formatBits)
structure C_internal_strconv_Itoa where
  internal_strconv_FormatInt : Int → Int → Heap → Option (ByteArray × Heap)
noncomputable def O_internal_strconv_Itoa (w : C_internal_strconv_Itoa) : Known := (known0).and 54 (g2 (tInt .i64) (tInt .i64) tStr w.internal_strconv_FormatInt)
theorem K_internal_strconv_Itoa (w : C_internal_strconv_Itoa) (h_internal_strconv_FormatInt : Ok_internal_strconv_FormatInt w.internal_strconv_FormatInt) : KnownOK Tryd.prog T (O_internal_strconv_Itoa w) :=
  known_ok ok (known0_ok) fn_internal_strconv_FormatInt (by kernel_rfl) (g2_ok h_internal_strconv_FormatInt)
structure C_strconv_Itoa where
  internal_strconv_Itoa : Int → Heap → Option (ByteArray × Heap)
noncomputable def O_strconv_Itoa (w : C_strconv_Itoa) : Known := (known0).and 43 (g1 (tInt .i64) tStr w.internal_strconv_Itoa)
theorem K_strconv_Itoa (w : C_strconv_Itoa) (h_internal_strconv_Itoa : Ok_internal_strconv_Itoa w.internal_strconv_Itoa) : KnownOK Tryd.prog T (O_strconv_Itoa w) :=
  known_ok ok (known0_ok) fn_internal_strconv_Itoa (by kernel_rfl) (g1_ok h_internal_strconv_Itoa)
structure C_json_Time where
  strconv_Itoa : Int → Heap → Option (ByteArray × Heap)
noncomputable def O_json_Time (w : C_json_Time) : Known := (known0).and 31 (g1 (tInt .i64) tStr w.strconv_Itoa)
theorem K_json_Time (w : C_json_Time) (h_strconv_Itoa : Ok_strconv_Itoa w.strconv_Itoa) : KnownOK Tryd.prog T (O_json_Time w) :=
  known_ok ok (known0_ok) fn_strconv_Itoa (by kernel_rfl) (g1_ok h_strconv_Itoa)
structure C_law03_fit where
  json_Quote : ByteArray → Heap → Option (ByteArray × Heap)
  json_Time : Int → Heap → Option (ByteArray × Heap)
noncomputable def O_law03_fit (w : C_law03_fit) : Known := ((known0).and 15 (g1 tStr tStr w.json_Quote)).and 23 (g1 (tInt .i64) tStr w.json_Time)
theorem K_law03_fit (w : C_law03_fit) (h_json_Quote : Ok_json_Quote w.json_Quote) (h_json_Time : Ok_json_Time w.json_Time) : KnownOK Tryd.prog T (O_law03_fit w) :=
  known_ok ok (known_ok ok (known0_ok) fn_json_Quote (by kernel_rfl) (g1_ok h_json_Quote)) fn_json_Time (by kernel_rfl) (g1_ok h_json_Time)
structure C_law03_JsonSigns where
  law03_fit : Heap → Option (Bool × Heap)
  json_Quote : ByteArray → Heap → Option (ByteArray × Heap)
noncomputable def O_law03_JsonSigns (w : C_law03_JsonSigns) : Known := ((known0).and 14 (g0  tBool w.law03_fit)).and 15 (g1 tStr tStr w.json_Quote)
theorem K_law03_JsonSigns (w : C_law03_JsonSigns) (h_law03_fit : Ok_law03_fit w.law03_fit) (h_json_Quote : Ok_json_Quote w.json_Quote) : KnownOK Tryd.prog T (O_law03_JsonSigns w) :=
  known_ok ok (known_ok ok (known0_ok) fn_law03_fit (by kernel_rfl) (g0_ok h_law03_fit)) fn_json_Quote (by kernel_rfl) (g1_ok h_json_Quote)
structure C_strings_Builder_WriteString where
  strings_Builder_copyCheck : Pt → Heap → Option (Unit × Heap)
noncomputable def O_strings_Builder_WriteString (w : C_strings_Builder_WriteString) : Known := (known0).and 42 (g1 tPtr tVoid w.strings_Builder_copyCheck)
theorem K_strings_Builder_WriteString (w : C_strings_Builder_WriteString) (h_strings_Builder_copyCheck : Ok_strings_Builder_copyCheck w.strings_Builder_copyCheck) : KnownOK Tryd.prog T (O_strings_Builder_WriteString w) :=
  known_ok ok (known0_ok) fn_strings_Builder_copyCheck (by kernel_rfl) (g1_ok h_strings_Builder_copyCheck)
structure C_cast_Export where
  json_Quote : ByteArray → Heap → Option (ByteArray × Heap)
  json_Time : Int → Heap → Option (ByteArray × Heap)
  strings_Builder_WriteString : Pt → ByteArray → Heap → Option ((Int × Er) × Heap)
  strconv_Itoa : Int → Heap → Option (ByteArray × Heap)
  strings_Builder_String : Pt → Heap → Option (ByteArray × Heap)
noncomputable def O_cast_Export (w : C_cast_Export) : Known := (((((known0).and 15 (g1 tStr tStr w.json_Quote)).and 23 (g1 (tInt .i64) tStr w.json_Time)).and 30 (g2 tPtr tStr (tPair (tInt .i64) tErr) w.strings_Builder_WriteString)).and 31 (g1 (tInt .i64) tStr w.strconv_Itoa)).and 32 (g1 tPtr tStr w.strings_Builder_String)
theorem K_cast_Export (w : C_cast_Export) (h_json_Quote : Ok_json_Quote w.json_Quote) (h_json_Time : Ok_json_Time w.json_Time) (h_strings_Builder_WriteString : Ok_strings_Builder_WriteString w.strings_Builder_WriteString) (h_strconv_Itoa : Ok_strconv_Itoa w.strconv_Itoa) (h_strings_Builder_String : Ok_strings_Builder_String w.strings_Builder_String) : KnownOK Tryd.prog T (O_cast_Export w) :=
  known_ok ok (known_ok ok (known_ok ok (known_ok ok (known_ok ok (known0_ok) fn_json_Quote (by kernel_rfl) (g1_ok h_json_Quote)) fn_json_Time (by kernel_rfl) (g1_ok h_json_Time)) fn_strings_Builder_WriteString (by kernel_rfl) (g2_ok h_strings_Builder_WriteString)) fn_strconv_Itoa (by kernel_rfl) (g1_ok h_strconv_Itoa)) fn_strings_Builder_String (by kernel_rfl) (g1_ok h_strings_Builder_String)
structure C_law17_fit where
  cast_Export : Int → Int → Sl → Heap → Option (ByteArray × Heap)
noncomputable def O_law17_fit (w : C_law17_fit) : Known := (known0).and 18 (g3 (tInt .i64) (tInt .i64) (tSl 5) tStr w.cast_Export)
theorem K_law17_fit (w : C_law17_fit) (h_cast_Export : Ok_cast_Export w.cast_Export) : KnownOK Tryd.prog T (O_law17_fit w) :=
  known_ok ok (known0_ok) fn_cast_Export (by kernel_rfl) (g3_ok h_cast_Export)
structure C_law17_write where
  json_Quote : ByteArray → Heap → Option (ByteArray × Heap)
  json_Time : Int → Heap → Option (ByteArray × Heap)
  strconv_Itoa : Int → Heap → Option (ByteArray × Heap)
noncomputable def O_law17_write (w : C_law17_write) : Known := (((known0).and 15 (g1 tStr tStr w.json_Quote)).and 23 (g1 (tInt .i64) tStr w.json_Time)).and 31 (g1 (tInt .i64) tStr w.strconv_Itoa)
theorem K_law17_write (w : C_law17_write) (h_json_Quote : Ok_json_Quote w.json_Quote) (h_json_Time : Ok_json_Time w.json_Time) (h_strconv_Itoa : Ok_strconv_Itoa w.strconv_Itoa) : KnownOK Tryd.prog T (O_law17_write w) :=
  known_ok ok (known_ok ok (known_ok ok (known0_ok) fn_json_Quote (by kernel_rfl) (g1_ok h_json_Quote)) fn_json_Time (by kernel_rfl) (g1_ok h_json_Time)) fn_strconv_Itoa (by kernel_rfl) (g1_ok h_strconv_Itoa)
structure C_law17_CastWrites where
  law17_fit : Heap → Option (Bool × Heap)
  ref12_Tame : Sl → Heap → Option (Sl × Heap)
  cast_Export : Int → Int → Sl → Heap → Option (ByteArray × Heap)
  law17_write : Int → Int → Sl → Heap → Option (ByteArray × Heap)
noncomputable def O_law17_CastWrites (w : C_law17_CastWrites) : Known := ((((known0).and 16 (g0  tBool w.law17_fit)).and 17 (g1 (tSl 5) (tSl 5) w.ref12_Tame)).and 18 (g3 (tInt .i64) (tInt .i64) (tSl 5) tStr w.cast_Export)).and 19 (g3 (tInt .i64) (tInt .i64) (tSl 5) tStr w.law17_write)
theorem K_law17_CastWrites (w : C_law17_CastWrites) (h_law17_fit : Ok_law17_fit w.law17_fit) (h_ref12_Tame : Ok_ref12_Tame w.ref12_Tame) (h_cast_Export : Ok_cast_Export w.cast_Export) (h_law17_write : Ok_law17_write w.law17_write) : KnownOK Tryd.prog T (O_law17_CastWrites w) :=
  known_ok ok (known_ok ok (known_ok ok (known_ok ok (known0_ok) fn_law17_fit (by kernel_rfl) (g0_ok h_law17_fit)) fn_ref12_Tame (by kernel_rfl) (g1_ok h_ref12_Tame)) fn_cast_Export (by kernel_rfl) (g3_ok h_cast_Export)) fn_law17_write (by kernel_rfl) (g3_ok h_law17_write)
structure C_law17_CastLines where
  law17_fit : Heap → Option (Bool × Heap)
  ref12_Tame : Sl → Heap → Option (Sl × Heap)
  cast_Export : Int → Int → Sl → Heap → Option (ByteArray × Heap)
noncomputable def O_law17_CastLines (w : C_law17_CastLines) : Known := (((known0).and 16 (g0  tBool w.law17_fit)).and 17 (g1 (tSl 5) (tSl 5) w.ref12_Tame)).and 18 (g3 (tInt .i64) (tInt .i64) (tSl 5) tStr w.cast_Export)
theorem K_law17_CastLines (w : C_law17_CastLines) (h_law17_fit : Ok_law17_fit w.law17_fit) (h_ref12_Tame : Ok_ref12_Tame w.ref12_Tame) (h_cast_Export : Ok_cast_Export w.cast_Export) : KnownOK Tryd.prog T (O_law17_CastLines w) :=
  known_ok ok (known_ok ok (known_ok ok (known0_ok) fn_law17_fit (by kernel_rfl) (g0_ok h_law17_fit)) fn_ref12_Tame (by kernel_rfl) (g1_ok h_ref12_Tame)) fn_cast_Export (by kernel_rfl) (g3_ok h_cast_Export)
structure C_unicode_utf8_ValidString where
  unicode_utf8_word : ByteArray → Heap → Option (Int × Heap)
noncomputable def O_unicode_utf8_ValidString (w : C_unicode_utf8_ValidString) : Known := (known0).and 44 (g1 tStr (tInt .u64) w.unicode_utf8_word)
theorem K_unicode_utf8_ValidString (w : C_unicode_utf8_ValidString) (h_unicode_utf8_word : Ok_unicode_utf8_word w.unicode_utf8_word) : KnownOK Tryd.prog T (O_unicode_utf8_ValidString w) :=
  known_ok ok (known0_ok) fn_unicode_utf8_word (by kernel_rfl) (g1_ok h_unicode_utf8_word)
structure C_json_escape where
  json_hex : Int → Heap → Option (Int × Heap)
noncomputable def O_json_escape (w : C_json_escape) : Known := (known0).and 45 (g1 (tInt .u8) (tInt .i64) w.json_hex)
theorem K_json_escape (w : C_json_escape) (h_json_hex : Ok_json_hex w.json_hex) : KnownOK Tryd.prog T (O_json_escape w) :=
  known_ok ok (known0_ok) fn_json_hex (by kernel_rfl) (g1_ok h_json_hex)
structure C_json_Unquote where
  json_Quote : ByteArray → Heap → Option (ByteArray × Heap)
  unicode_utf8_ValidString : ByteArray → Heap → Option (Bool × Heap)
  json_escape : ByteArray → Heap → Option ((Int × Int) × Heap)
noncomputable def O_json_Unquote (w : C_json_Unquote) : Known := (((known0).and 15 (g1 tStr tStr w.json_Quote)).and 33 (g1 tStr tBool w.unicode_utf8_ValidString)).and 34 (g1 tStr (tPair (tInt .u8) (tInt .i64)) w.json_escape)
theorem K_json_Unquote (w : C_json_Unquote) (h_json_Quote : Ok_json_Quote w.json_Quote) (h_unicode_utf8_ValidString : Ok_unicode_utf8_ValidString w.unicode_utf8_ValidString) (h_json_escape : Ok_json_escape w.json_escape) : KnownOK Tryd.prog T (O_json_Unquote w) :=
  known_ok ok (known_ok ok (known_ok ok (known0_ok) fn_json_Quote (by kernel_rfl) (g1_ok h_json_Quote)) fn_unicode_utf8_ValidString (by kernel_rfl) (g1_ok h_unicode_utf8_ValidString)) fn_json_escape (by kernel_rfl) (g1_ok h_json_escape)
structure C_law03_JsonTexts where
  law03_fit : Heap → Option (Bool × Heap)
  json_Quote : ByteArray → Heap → Option (ByteArray × Heap)
  json_Unquote : ByteArray → Heap → Option ((ByteArray × ByteArray × Bool) × Heap)
  law03_whole : ByteArray → Heap → Option (ByteArray × Heap)
noncomputable def O_law03_JsonTexts (w : C_law03_JsonTexts) : Known := ((((known0).and 14 (g0  tBool w.law03_fit)).and 15 (g1 tStr tStr w.json_Quote)).and 20 (g1 tStr (tTrip tStr tStr tBool) w.json_Unquote)).and 21 (g1 tStr tStr w.law03_whole)
theorem K_law03_JsonTexts (w : C_law03_JsonTexts) (h_law03_fit : Ok_law03_fit w.law03_fit) (h_json_Quote : Ok_json_Quote w.json_Quote) (h_json_Unquote : Ok_json_Unquote w.json_Unquote) (h_law03_whole : Ok_law03_whole w.law03_whole) : KnownOK Tryd.prog T (O_law03_JsonTexts w) :=
  known_ok ok (known_ok ok (known_ok ok (known_ok ok (known0_ok) fn_law03_fit (by kernel_rfl) (g0_ok h_law03_fit)) fn_json_Quote (by kernel_rfl) (g1_ok h_json_Quote)) fn_json_Unquote (by kernel_rfl) (g1_ok h_json_Unquote)) fn_law03_whole (by kernel_rfl) (g1_ok h_law03_whole)
structure C_law03_JsonAny where
  law03_fit : Heap → Option (Bool × Heap)
  json_Quote : ByteArray → Heap → Option (ByteArray × Heap)
  json_Unquote : ByteArray → Heap → Option ((ByteArray × ByteArray × Bool) × Heap)
  law03_whole : ByteArray → Heap → Option (ByteArray × Heap)
noncomputable def O_law03_JsonAny (w : C_law03_JsonAny) : Known := ((((known0).and 14 (g0  tBool w.law03_fit)).and 15 (g1 tStr tStr w.json_Quote)).and 20 (g1 tStr (tTrip tStr tStr tBool) w.json_Unquote)).and 21 (g1 tStr tStr w.law03_whole)
theorem K_law03_JsonAny (w : C_law03_JsonAny) (h_law03_fit : Ok_law03_fit w.law03_fit) (h_json_Quote : Ok_json_Quote w.json_Quote) (h_json_Unquote : Ok_json_Unquote w.json_Unquote) (h_law03_whole : Ok_law03_whole w.law03_whole) : KnownOK Tryd.prog T (O_law03_JsonAny w) :=
  known_ok ok (known_ok ok (known_ok ok (known_ok ok (known0_ok) fn_law03_fit (by kernel_rfl) (g0_ok h_law03_fit)) fn_json_Quote (by kernel_rfl) (g1_ok h_json_Quote)) fn_json_Unquote (by kernel_rfl) (g1_ok h_json_Unquote)) fn_law03_whole (by kernel_rfl) (g1_ok h_law03_whole)
structure C_internal_strconv_ParseUint where
  internal_strconv_lower : Int → Heap → Option (Int × Heap)
  internal_strconv_underscoreOK : ByteArray → Heap → Option (Bool × Heap)
noncomputable def O_internal_strconv_ParseUint (w : C_internal_strconv_ParseUint) : Known := ((known0).and 74 (g1 (tInt .u8) (tInt .u8) w.internal_strconv_lower)).and 75 (g1 tStr tBool w.internal_strconv_underscoreOK)
theorem K_internal_strconv_ParseUint (w : C_internal_strconv_ParseUint) (h_internal_strconv_lower : Ok_internal_strconv_lower w.internal_strconv_lower) (h_internal_strconv_underscoreOK : Ok_internal_strconv_underscoreOK w.internal_strconv_underscoreOK) : KnownOK Tryd.prog T (O_internal_strconv_ParseUint w) :=
  known_ok ok (known_ok ok (known0_ok) fn_internal_strconv_lower (by kernel_rfl) (g1_ok h_internal_strconv_lower)) fn_internal_strconv_underscoreOK (by kernel_rfl) (g1_ok h_internal_strconv_underscoreOK)
structure C_internal_strconv_ParseInt where
  internal_strconv_ParseUint : ByteArray → Int → Int → Heap → Option ((Int × Er) × Heap)
noncomputable def O_internal_strconv_ParseInt (w : C_internal_strconv_ParseInt) : Known := (known0).and 65 (g3 tStr (tInt .i64) (tInt .i64) (tPair (tInt .u64) tErr) w.internal_strconv_ParseUint)
theorem K_internal_strconv_ParseInt (w : C_internal_strconv_ParseInt) (h_internal_strconv_ParseUint : Ok_internal_strconv_ParseUint w.internal_strconv_ParseUint) : KnownOK Tryd.prog T (O_internal_strconv_ParseInt w) :=
  known_ok ok (known0_ok) fn_internal_strconv_ParseUint (by kernel_rfl) (g3_ok h_internal_strconv_ParseUint)
structure C_internal_strconv_Atoi where
  internal_strconv_ParseInt : ByteArray → Int → Int → Heap → Option ((Int × Er) × Heap)
noncomputable def O_internal_strconv_Atoi (w : C_internal_strconv_Atoi) : Known := (known0).and 55 (g3 tStr (tInt .i64) (tInt .i64) (tPair (tInt .i64) tErr) w.internal_strconv_ParseInt)
theorem K_internal_strconv_Atoi (w : C_internal_strconv_Atoi) (h_internal_strconv_ParseInt : Ok_internal_strconv_ParseInt w.internal_strconv_ParseInt) : KnownOK Tryd.prog T (O_internal_strconv_Atoi w) :=
  known_ok ok (known0_ok) fn_internal_strconv_ParseInt (by kernel_rfl) (g3_ok h_internal_strconv_ParseInt)
structure C_strconv_Atoi where
  internal_strconv_Atoi : ByteArray → Heap → Option ((Int × Er) × Heap)
  strconv_toError : ByteArray → ByteArray → Int → Int → Er → Heap → Option (Er × Heap)
noncomputable def O_strconv_Atoi (w : C_strconv_Atoi) : Known := ((known0).and 46 (g1 tStr (tPair (tInt .i64) tErr) w.internal_strconv_Atoi)).and 47 (g5 tStr tStr (tInt .i64) (tInt .i64) tErr tErr w.strconv_toError)
theorem K_strconv_Atoi (w : C_strconv_Atoi) (h_internal_strconv_Atoi : Ok_internal_strconv_Atoi w.internal_strconv_Atoi) (h_strconv_toError : Ok_strconv_toError w.strconv_toError) : KnownOK Tryd.prog T (O_strconv_Atoi w) :=
  known_ok ok (known_ok ok (known0_ok) fn_internal_strconv_Atoi (by kernel_rfl) (g1_ok h_internal_strconv_Atoi)) fn_strconv_toError (by kernel_rfl) (g5_ok h_strconv_toError)
structure C_json_Number where
  strconv_Atoi : ByteArray → Heap → Option ((Int × Er) × Heap)
noncomputable def O_json_Number (w : C_json_Number) : Known := (known0).and 35 (g1 tStr (tPair (tInt .i64) tErr) w.strconv_Atoi)
theorem K_json_Number (w : C_json_Number) (h_strconv_Atoi : Ok_strconv_Atoi w.strconv_Atoi) : KnownOK Tryd.prog T (O_json_Number w) :=
  known_ok ok (known0_ok) fn_strconv_Atoi (by kernel_rfl) (g1_ok h_strconv_Atoi)
structure C_law03_JsonNumbers where
  law03_fit : Heap → Option (Bool × Heap)
  json_Number : ByteArray → Heap → Option ((Int × ByteArray × Bool) × Heap)
noncomputable def O_law03_JsonNumbers (w : C_law03_JsonNumbers) : Known := ((known0).and 14 (g0  tBool w.law03_fit)).and 22 (g1 tStr (tTrip (tInt .i64) tStr tBool) w.json_Number)
theorem K_law03_JsonNumbers (w : C_law03_JsonNumbers) (h_law03_fit : Ok_law03_fit w.law03_fit) (h_json_Number : Ok_json_Number w.json_Number) : KnownOK Tryd.prog T (O_law03_JsonNumbers w) :=
  known_ok ok (known_ok ok (known0_ok) fn_law03_fit (by kernel_rfl) (g0_ok h_law03_fit)) fn_json_Number (by kernel_rfl) (g1_ok h_json_Number)
structure C_json_Untime where
  json_Number : ByteArray → Heap → Option ((Int × ByteArray × Bool) × Heap)
noncomputable def O_json_Untime (w : C_json_Untime) : Known := (known0).and 22 (g1 tStr (tTrip (tInt .i64) tStr tBool) w.json_Number)
theorem K_json_Untime (w : C_json_Untime) (h_json_Number : Ok_json_Number w.json_Number) : KnownOK Tryd.prog T (O_json_Untime w) :=
  known_ok ok (known0_ok) fn_json_Number (by kernel_rfl) (g1_ok h_json_Number)
structure C_law03_JsonTimes where
  law03_fit : Heap → Option (Bool × Heap)
  json_Time : Int → Heap → Option (ByteArray × Heap)
  json_Untime : ByteArray → Heap → Option ((Int × ByteArray × Bool) × Heap)
noncomputable def O_law03_JsonTimes (w : C_law03_JsonTimes) : Known := (((known0).and 14 (g0  tBool w.law03_fit)).and 23 (g1 (tInt .i64) tStr w.json_Time)).and 24 (g1 tStr (tTrip (tInt .i64) tStr tBool) w.json_Untime)
theorem K_law03_JsonTimes (w : C_law03_JsonTimes) (h_law03_fit : Ok_law03_fit w.law03_fit) (h_json_Time : Ok_json_Time w.json_Time) (h_json_Untime : Ok_json_Untime w.json_Untime) : KnownOK Tryd.prog T (O_law03_JsonTimes w) :=
  known_ok ok (known_ok ok (known_ok ok (known0_ok) fn_law03_fit (by kernel_rfl) (g0_ok h_law03_fit)) fn_json_Time (by kernel_rfl) (g1_ok h_json_Time)) fn_json_Untime (by kernel_rfl) (g1_ok h_json_Untime)
structure C_law03_JsonUntimes where
  law03_fit : Heap → Option (Bool × Heap)
  json_Time : Int → Heap → Option (ByteArray × Heap)
  json_Untime : ByteArray → Heap → Option ((Int × ByteArray × Bool) × Heap)
noncomputable def O_law03_JsonUntimes (w : C_law03_JsonUntimes) : Known := (((known0).and 14 (g0  tBool w.law03_fit)).and 23 (g1 (tInt .i64) tStr w.json_Time)).and 24 (g1 tStr (tTrip (tInt .i64) tStr tBool) w.json_Untime)
theorem K_law03_JsonUntimes (w : C_law03_JsonUntimes) (h_law03_fit : Ok_law03_fit w.law03_fit) (h_json_Time : Ok_json_Time w.json_Time) (h_json_Untime : Ok_json_Untime w.json_Untime) : KnownOK Tryd.prog T (O_law03_JsonUntimes w) :=
  known_ok ok (known_ok ok (known_ok ok (known0_ok) fn_law03_fit (by kernel_rfl) (g0_ok h_law03_fit)) fn_json_Time (by kernel_rfl) (g1_ok h_json_Time)) fn_json_Untime (by kernel_rfl) (g1_ok h_json_Untime)
structure C_internal_stringslite_CutPrefix where
  internal_stringslite_HasPrefix : ByteArray → ByteArray → Heap → Option (Bool × Heap)
noncomputable def O_internal_stringslite_CutPrefix (w : C_internal_stringslite_CutPrefix) : Known := (known0).and 68 (g2 tStr tStr tBool w.internal_stringslite_HasPrefix)
theorem K_internal_stringslite_CutPrefix (w : C_internal_stringslite_CutPrefix) (h_internal_stringslite_HasPrefix : Ok_internal_stringslite_HasPrefix w.internal_stringslite_HasPrefix) : KnownOK Tryd.prog T (O_internal_stringslite_CutPrefix w) :=
  known_ok ok (known0_ok) fn_internal_stringslite_HasPrefix (by kernel_rfl) (g2_ok h_internal_stringslite_HasPrefix)
structure C_strings_CutPrefix where
  internal_stringslite_CutPrefix : ByteArray → ByteArray → Heap → Option ((ByteArray × Bool) × Heap)
noncomputable def O_strings_CutPrefix (w : C_strings_CutPrefix) : Known := (known0).and 60 (g2 tStr tStr (tPair tStr tBool) w.internal_stringslite_CutPrefix)
theorem K_strings_CutPrefix (w : C_strings_CutPrefix) (h_internal_stringslite_CutPrefix : Ok_internal_stringslite_CutPrefix w.internal_stringslite_CutPrefix) : KnownOK Tryd.prog T (O_strings_CutPrefix w) :=
  known_ok ok (known0_ok) fn_internal_stringslite_CutPrefix (by kernel_rfl) (g2_ok h_internal_stringslite_CutPrefix)
structure C_cast_reader_skip where
  strings_CutPrefix : ByteArray → ByteArray → Heap → Option ((ByteArray × Bool) × Heap)
noncomputable def O_cast_reader_skip (w : C_cast_reader_skip) : Known := (known0).and 48 (g2 tStr tStr (tPair tStr tBool) w.strings_CutPrefix)
theorem K_cast_reader_skip (w : C_cast_reader_skip) (h_strings_CutPrefix : Ok_strings_CutPrefix w.strings_CutPrefix) : KnownOK Tryd.prog T (O_cast_reader_skip w) :=
  known_ok ok (known0_ok) fn_strings_CutPrefix (by kernel_rfl) (g2_ok h_strings_CutPrefix)
structure C_cast_reader_number where
  json_Number : ByteArray → Heap → Option ((Int × ByteArray × Bool) × Heap)
noncomputable def O_cast_reader_number (w : C_cast_reader_number) : Known := (known0).and 22 (g1 tStr (tTrip (tInt .i64) tStr tBool) w.json_Number)
theorem K_cast_reader_number (w : C_cast_reader_number) (h_json_Number : Ok_json_Number w.json_Number) : KnownOK Tryd.prog T (O_cast_reader_number w) :=
  known_ok ok (known0_ok) fn_json_Number (by kernel_rfl) (g1_ok h_json_Number)
structure C_cast_reader_time where
  json_Untime : ByteArray → Heap → Option ((Int × ByteArray × Bool) × Heap)
noncomputable def O_cast_reader_time (w : C_cast_reader_time) : Known := (known0).and 24 (g1 tStr (tTrip (tInt .i64) tStr tBool) w.json_Untime)
theorem K_cast_reader_time (w : C_cast_reader_time) (h_json_Untime : Ok_json_Untime w.json_Untime) : KnownOK Tryd.prog T (O_cast_reader_time w) :=
  known_ok ok (known0_ok) fn_json_Untime (by kernel_rfl) (g1_ok h_json_Untime)
structure C_cast_reader_text where
  json_Unquote : ByteArray → Heap → Option ((ByteArray × ByteArray × Bool) × Heap)
noncomputable def O_cast_reader_text (w : C_cast_reader_text) : Known := (known0).and 20 (g1 tStr (tTrip tStr tStr tBool) w.json_Unquote)
theorem K_cast_reader_text (w : C_cast_reader_text) (h_json_Unquote : Ok_json_Unquote w.json_Unquote) : KnownOK Tryd.prog T (O_cast_reader_text w) :=
  known_ok ok (known0_ok) fn_json_Unquote (by kernel_rfl) (g1_ok h_json_Unquote)
structure C_cast_reader_event where
  cast_reader_skip : Pt → ByteArray → Heap → Option (Unit × Heap)
  cast_reader_number : Pt → Heap → Option (Int × Heap)
  cast_reader_time : Pt → Heap → Option (Int × Heap)
  cast_reader_kind : Pt → Heap → Option (Int × Heap)
  cast_reader_text : Pt → Heap → Option (ByteArray × Heap)
noncomputable def O_cast_reader_event (w : C_cast_reader_event) : Known := (((((known0).and 36 (g2 tPtr tStr tVoid w.cast_reader_skip)).and 37 (g1 tPtr (tInt .i64) w.cast_reader_number)).and 49 (g1 tPtr (tInt .i64) w.cast_reader_time)).and 50 (g1 tPtr (tInt .i64) w.cast_reader_kind)).and 51 (g1 tPtr tStr w.cast_reader_text)
theorem K_cast_reader_event (w : C_cast_reader_event) (h_cast_reader_skip : Ok_cast_reader_skip w.cast_reader_skip) (h_cast_reader_number : Ok_cast_reader_number w.cast_reader_number) (h_cast_reader_time : Ok_cast_reader_time w.cast_reader_time) (h_cast_reader_kind : Ok_cast_reader_kind w.cast_reader_kind) (h_cast_reader_text : Ok_cast_reader_text w.cast_reader_text) : KnownOK Tryd.prog T (O_cast_reader_event w) :=
  known_ok ok (known_ok ok (known_ok ok (known_ok ok (known_ok ok (known0_ok) fn_cast_reader_skip (by kernel_rfl) (g2_ok h_cast_reader_skip)) fn_cast_reader_number (by kernel_rfl) (g1_ok h_cast_reader_number)) fn_cast_reader_time (by kernel_rfl) (g1_ok h_cast_reader_time)) fn_cast_reader_kind (by kernel_rfl) (g1_ok h_cast_reader_kind)) fn_cast_reader_text (by kernel_rfl) (g1_ok h_cast_reader_text)
structure C_event_List where
  event_Right : api_Event → Heap → Option (Bool × Heap)
noncomputable def O_event_List (w : C_event_List) : Known := (known0).and 52 (g1 t_api_Event tBool w.event_Right)
theorem K_event_List (w : C_event_List) (h_event_Right : Ok_event_Right w.event_Right) : KnownOK Tryd.prog T (O_event_List w) :=
  known_ok ok (known0_ok) fn_event_Right (by kernel_rfl) (g1_ok h_event_Right)
structure C_cast_Import where
  cast_reader_skip : Pt → ByteArray → Heap → Option (Unit × Heap)
  cast_reader_number : Pt → Heap → Option (Int × Heap)
  cast_reader_event : Pt → Heap → Option (api_Event × Heap)
  event_List : Sl → Heap → Option (Bool × Heap)
noncomputable def O_cast_Import (w : C_cast_Import) : Known := ((((known0).and 36 (g2 tPtr tStr tVoid w.cast_reader_skip)).and 37 (g1 tPtr (tInt .i64) w.cast_reader_number)).and 38 (g1 tPtr t_api_Event w.cast_reader_event)).and 39 (g1 (tSl 5) tBool w.event_List)
theorem K_cast_Import (w : C_cast_Import) (h_cast_reader_skip : Ok_cast_reader_skip w.cast_reader_skip) (h_cast_reader_number : Ok_cast_reader_number w.cast_reader_number) (h_cast_reader_event : Ok_cast_reader_event w.cast_reader_event) (h_event_List : Ok_event_List w.event_List) : KnownOK Tryd.prog T (O_cast_Import w) :=
  known_ok ok (known_ok ok (known_ok ok (known_ok ok (known0_ok) fn_cast_reader_skip (by kernel_rfl) (g2_ok h_cast_reader_skip)) fn_cast_reader_number (by kernel_rfl) (g1_ok h_cast_reader_number)) fn_cast_reader_event (by kernel_rfl) (g1_ok h_cast_reader_event)) fn_event_List (by kernel_rfl) (g1_ok h_event_List)
structure C_law17_CastBack where
  law17_fit : Heap → Option (Bool × Heap)
  ref12_Tame : Sl → Heap → Option (Sl × Heap)
  cast_Export : Int → Int → Sl → Heap → Option (ByteArray × Heap)
  law17_whole : ByteArray → Heap → Option (ByteArray × Heap)
  cast_Import : ByteArray → Heap → Option ((Int × Int × Sl × Int) × Heap)
  ref12_Same : Sl → Sl → Heap → Option (Bool × Heap)
noncomputable def O_law17_CastBack (w : C_law17_CastBack) : Known := ((((((known0).and 16 (g0  tBool w.law17_fit)).and 17 (g1 (tSl 5) (tSl 5) w.ref12_Tame)).and 18 (g3 (tInt .i64) (tInt .i64) (tSl 5) tStr w.cast_Export)).and 25 (g1 tStr tStr w.law17_whole)).and 26 (g1 tStr (tQuad (tInt .i64) (tInt .i64) (tSl 5) (tInt .i64)) w.cast_Import)).and 27 (g2 (tSl 5) (tSl 5) tBool w.ref12_Same)
theorem K_law17_CastBack (w : C_law17_CastBack) (h_law17_fit : Ok_law17_fit w.law17_fit) (h_ref12_Tame : Ok_ref12_Tame w.ref12_Tame) (h_cast_Export : Ok_cast_Export w.cast_Export) (h_law17_whole : Ok_law17_whole w.law17_whole) (h_cast_Import : Ok_cast_Import w.cast_Import) (h_ref12_Same : Ok_ref12_Same w.ref12_Same) : KnownOK Tryd.prog T (O_law17_CastBack w) :=
  known_ok ok (known_ok ok (known_ok ok (known_ok ok (known_ok ok (known_ok ok (known0_ok) fn_law17_fit (by kernel_rfl) (g0_ok h_law17_fit)) fn_ref12_Tame (by kernel_rfl) (g1_ok h_ref12_Tame)) fn_cast_Export (by kernel_rfl) (g3_ok h_cast_Export)) fn_law17_whole (by kernel_rfl) (g1_ok h_law17_whole)) fn_cast_Import (by kernel_rfl) (g1_ok h_cast_Import)) fn_ref12_Same (by kernel_rfl) (g2_ok h_ref12_Same)
structure C_ref12_List where
  ref12_Right : api_Event → Heap → Option (Bool × Heap)
noncomputable def O_ref12_List (w : C_ref12_List) : Known := (known0).and 40 (g1 t_api_Event tBool w.ref12_Right)
theorem K_ref12_List (w : C_ref12_List) (h_ref12_Right : Ok_ref12_Right w.ref12_Right) : KnownOK Tryd.prog T (O_ref12_List w) :=
  known_ok ok (known0_ok) fn_ref12_Right (by kernel_rfl) (g1_ok h_ref12_Right)
structure C_law17_CastAny where
  law17_fit : Heap → Option (Bool × Heap)
  law17_write : Int → Int → Sl → Heap → Option (ByteArray × Heap)
  law17_whole : ByteArray → Heap → Option (ByteArray × Heap)
  cast_Import : ByteArray → Heap → Option ((Int × Int × Sl × Int) × Heap)
  ref12_List : Sl → Heap → Option (Bool × Heap)
noncomputable def O_law17_CastAny (w : C_law17_CastAny) : Known := (((((known0).and 16 (g0  tBool w.law17_fit)).and 19 (g3 (tInt .i64) (tInt .i64) (tSl 5) tStr w.law17_write)).and 25 (g1 tStr tStr w.law17_whole)).and 26 (g1 tStr (tQuad (tInt .i64) (tInt .i64) (tSl 5) (tInt .i64)) w.cast_Import)).and 28 (g1 (tSl 5) tBool w.ref12_List)
theorem K_law17_CastAny (w : C_law17_CastAny) (h_law17_fit : Ok_law17_fit w.law17_fit) (h_law17_write : Ok_law17_write w.law17_write) (h_law17_whole : Ok_law17_whole w.law17_whole) (h_cast_Import : Ok_cast_Import w.cast_Import) (h_ref12_List : Ok_ref12_List w.ref12_List) : KnownOK Tryd.prog T (O_law17_CastAny w) :=
  known_ok ok (known_ok ok (known_ok ok (known_ok ok (known_ok ok (known0_ok) fn_law17_fit (by kernel_rfl) (g0_ok h_law17_fit)) fn_law17_write (by kernel_rfl) (g3_ok h_law17_write)) fn_law17_whole (by kernel_rfl) (g1_ok h_law17_whole)) fn_cast_Import (by kernel_rfl) (g1_ok h_cast_Import)) fn_ref12_List (by kernel_rfl) (g1_ok h_ref12_List)
structure C_law17_CastSpoils where
  law17_fit : Heap → Option (Bool × Heap)
  ref12_Tame : Sl → Heap → Option (Sl × Heap)
  cast_Export : Int → Int → Sl → Heap → Option (ByteArray × Heap)
  law17_write : Int → Int → Sl → Heap → Option (ByteArray × Heap)
  cast_Import : ByteArray → Heap → Option ((Int × Int × Sl × Int) × Heap)
  ref12_List : Sl → Heap → Option (Bool × Heap)
noncomputable def O_law17_CastSpoils (w : C_law17_CastSpoils) : Known := ((((((known0).and 16 (g0  tBool w.law17_fit)).and 17 (g1 (tSl 5) (tSl 5) w.ref12_Tame)).and 18 (g3 (tInt .i64) (tInt .i64) (tSl 5) tStr w.cast_Export)).and 19 (g3 (tInt .i64) (tInt .i64) (tSl 5) tStr w.law17_write)).and 26 (g1 tStr (tQuad (tInt .i64) (tInt .i64) (tSl 5) (tInt .i64)) w.cast_Import)).and 28 (g1 (tSl 5) tBool w.ref12_List)
theorem K_law17_CastSpoils (w : C_law17_CastSpoils) (h_law17_fit : Ok_law17_fit w.law17_fit) (h_ref12_Tame : Ok_ref12_Tame w.ref12_Tame) (h_cast_Export : Ok_cast_Export w.cast_Export) (h_law17_write : Ok_law17_write w.law17_write) (h_cast_Import : Ok_cast_Import w.cast_Import) (h_ref12_List : Ok_ref12_List w.ref12_List) : KnownOK Tryd.prog T (O_law17_CastSpoils w) :=
  known_ok ok (known_ok ok (known_ok ok (known_ok ok (known_ok ok (known_ok ok (known0_ok) fn_law17_fit (by kernel_rfl) (g0_ok h_law17_fit)) fn_ref12_Tame (by kernel_rfl) (g1_ok h_ref12_Tame)) fn_cast_Export (by kernel_rfl) (g3_ok h_cast_Export)) fn_law17_write (by kernel_rfl) (g3_ok h_law17_write)) fn_cast_Import (by kernel_rfl) (g1_ok h_cast_Import)) fn_ref12_List (by kernel_rfl) (g1_ok h_ref12_List)
structure C_strconv_baseError where
  strconv_Itoa : Int → Heap → Option (ByteArray × Heap)
  internal_stringslite_Clone : ByteArray → Heap → Option (ByteArray × Heap)
  errors_New : ByteArray → Heap → Option (Er × Heap)
noncomputable def O_strconv_baseError (w : C_strconv_baseError) : Known := (((known0).and 31 (g1 (tInt .i64) tStr w.strconv_Itoa)).and 66 (g1 tStr tStr w.internal_stringslite_Clone)).and 67 (g1 tStr tErr w.errors_New)
theorem K_strconv_baseError (w : C_strconv_baseError) (h_strconv_Itoa : Ok_strconv_Itoa w.strconv_Itoa) (h_internal_stringslite_Clone : Ok_internal_stringslite_Clone w.internal_stringslite_Clone) (h_errors_New : Ok_errors_New w.errors_New) : KnownOK Tryd.prog T (O_strconv_baseError w) :=
  known_ok ok (known_ok ok (known_ok ok (known0_ok) fn_strconv_Itoa (by kernel_rfl) (g1_ok h_strconv_Itoa)) fn_internal_stringslite_Clone (by kernel_rfl) (g1_ok h_internal_stringslite_Clone)) fn_errors_New (by kernel_rfl) (g1_ok h_errors_New)
structure C_strconv_bitSizeError where
  strconv_Itoa : Int → Heap → Option (ByteArray × Heap)
  internal_stringslite_Clone : ByteArray → Heap → Option (ByteArray × Heap)
  errors_New : ByteArray → Heap → Option (Er × Heap)
noncomputable def O_strconv_bitSizeError (w : C_strconv_bitSizeError) : Known := (((known0).and 31 (g1 (tInt .i64) tStr w.strconv_Itoa)).and 66 (g1 tStr tStr w.internal_stringslite_Clone)).and 67 (g1 tStr tErr w.errors_New)
theorem K_strconv_bitSizeError (w : C_strconv_bitSizeError) (h_strconv_Itoa : Ok_strconv_Itoa w.strconv_Itoa) (h_internal_stringslite_Clone : Ok_internal_stringslite_Clone w.internal_stringslite_Clone) (h_errors_New : Ok_errors_New w.errors_New) : KnownOK Tryd.prog T (O_strconv_bitSizeError w) :=
  known_ok ok (known_ok ok (known_ok ok (known0_ok) fn_strconv_Itoa (by kernel_rfl) (g1_ok h_strconv_Itoa)) fn_internal_stringslite_Clone (by kernel_rfl) (g1_ok h_internal_stringslite_Clone)) fn_errors_New (by kernel_rfl) (g1_ok h_errors_New)
end Go.Abs.TB
