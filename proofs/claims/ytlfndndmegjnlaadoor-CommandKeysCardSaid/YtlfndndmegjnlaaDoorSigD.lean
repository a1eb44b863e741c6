/-
What is known of each function, by its callees.
-/
import Derived.Test.YtlfndndmegjnlaaDoorTypD
namespace Go.Abs.TD
open Go Go.Abs Go.Proofs
def Ok_strings_Cut (w : ByteArray → ByteArray → Heap → Option ((ByteArray × ByteArray × Bool) × Heap)) : Prop := ∀ x0 x1 σ v σ', w x0 x1 σ = some (v, σ') → CallOK Tryd.prog T 18 [tStr.av x0, tStr.av x1] σ ((tTrip tStr tStr tBool).av v) σ'
theorem fn_strings_Cut : T.fn 18 = some Tryd.f18 := by kernel_rfl
def Ok_strconv_Itoa (w : Int → Heap → Option (ByteArray × Heap)) : Prop := ∀ x0 σ v σ', w x0 σ = some (v, σ') → CallOK Tryd.prog T 24 [(tInt .i64).av x0] σ (tStr.av v) σ'
theorem fn_strconv_Itoa : T.fn 24 = some Tryd.f24 := by kernel_rfl
def Ok_strconv_Atoi (w : ByteArray → Heap → Option ((Int × Er) × Heap)) : Prop := ∀ x0 σ v σ', w x0 σ = some (v, σ') → CallOK Tryd.prog T 34 [tStr.av x0] σ ((tPair (tInt .i64) tErr).av v) σ'
theorem fn_strconv_Atoi : T.fn 34 = some Tryd.f34 := by kernel_rfl
def Ok_command_number (w : ByteArray → Heap → Option ((Int × Bool) × Heap)) : Prop := ∀ x0 σ v σ', w x0 σ = some (v, σ') → CallOK Tryd.prog T 26 [tStr.av x0] σ ((tPair (tInt .i64) tBool).av v) σ'
theorem fn_command_number : T.fn 26 = some Tryd.f26 := by kernel_rfl
def Ok_command_pair (w : ByteArray → Heap → Option ((Int × Int × Bool) × Heap)) : Prop := ∀ x0 σ v σ', w x0 σ = some (v, σ') → CallOK Tryd.prog T 27 [tStr.av x0] σ ((tTrip (tInt .i64) (tInt .i64) tBool).av v) σ'
theorem fn_command_pair : T.fn 27 = some Tryd.f27 := by kernel_rfl
def Ok_command_key (w : ByteArray → Heap → Option (Bool × Heap)) : Prop := ∀ x0 σ v σ', w x0 σ = some (v, σ') → CallOK Tryd.prog T 29 [tStr.av x0] σ (tBool.av v) σ'
theorem fn_command_key : T.fn 29 = some Tryd.f29 := by kernel_rfl
def Ok_command_Command_bound (w : Pt → ByteArray → Heap → Option (Int × Heap)) : Prop := ∀ x0 x1 σ v σ', w x0 x1 σ = some (v, σ') → CallOK Tryd.prog T 28 [tPtr.av x0, tStr.av x1] σ ((tInt .i64).av v) σ'
theorem fn_command_Command_bound : T.fn 28 = some Tryd.f28 := by kernel_rfl
def Ok_command_Command_fill (w : Pt → ByteArray → Bool → Heap → Option (Int × Heap)) : Prop := ∀ x0 x1 x2 σ v σ', w x0 x1 x2 σ = some (v, σ') → CallOK Tryd.prog T 19 [tPtr.av x0, tStr.av x1, tBool.av x2] σ ((tInt .i64).av v) σ'
theorem fn_command_Command_fill : T.fn 19 = some Tryd.f19 := by kernel_rfl
def Ok_command_Parse (w : ByteArray → Heap → Option ((command_Command × Int) × Heap)) : Prop := ∀ x0 σ v σ', w x0 σ = some (v, σ') → CallOK Tryd.prog T 9 [tStr.av x0] σ ((tPair t_command_Command (tInt .i64)).av v) σ'
theorem fn_command_Parse : T.fn 9 = some Tryd.f9 := by kernel_rfl
def Ok_command_Table_Find (w : Sl → Int → Heap → Option (ByteArray × Heap)) : Prop := ∀ x0 x1 σ v σ', w x0 x1 σ = some (v, σ') → CallOK Tryd.prog T 14 [(tSl 2).av x0, (tInt .u8).av x1] σ (tStr.av v) σ'
theorem fn_command_Table_Find : T.fn 14 = some Tryd.f14 := by kernel_rfl
def Ok_command_Standard (w : Heap → Option (Sl × Heap)) : Prop := ∀ σ v σ', w σ = some (v, σ') → CallOK Tryd.prog T 17 [] σ ((tSl 2).av v) σ'
theorem fn_command_Standard : T.fn 17 = some Tryd.f17 := by kernel_rfl
def Ok_law21_fit (w : Heap → Option (Bool × Heap)) : Prop := ∀ σ v σ', w σ = some (v, σ') → CallOK Tryd.prog T 8 [] σ (tBool.av v) σ'
theorem fn_law21_fit : T.fn 8 = some Tryd.f8 := by kernel_rfl
def Ok_ref21_Word (w : Int → Heap → Option (ByteArray × Heap)) : Prop := ∀ x0 σ v σ', w x0 σ = some (v, σ') → CallOK Tryd.prog T 20 [(tInt .i64).av x0] σ (tStr.av v) σ'
theorem fn_ref21_Word : T.fn 20 = some Tryd.f20 := by kernel_rfl
def Ok_ref21_number (w : ByteArray → Heap → Option ((Int × Bool) × Heap)) : Prop := ∀ x0 σ v σ', w x0 σ = some (v, σ') → CallOK Tryd.prog T 30 [tStr.av x0] σ ((tPair (tInt .i64) tBool).av v) σ'
theorem fn_ref21_number : T.fn 30 = some Tryd.f30 := by kernel_rfl
def Ok_ref21_pair (w : ByteArray → Heap → Option ((Int × Int × Bool) × Heap)) : Prop := ∀ x0 σ v σ', w x0 σ = some (v, σ') → CallOK Tryd.prog T 31 [tStr.av x0] σ ((tTrip (tInt .i64) (tInt .i64) tBool).av v) σ'
theorem fn_ref21_pair : T.fn 31 = some Tryd.f31 := by kernel_rfl
def Ok_ref21_behind (w : Int → ByteArray → Heap → Option ((ref21_Cmd × Int) × Heap)) : Prop := ∀ x0 x1 σ v σ', w x0 x1 σ = some (v, σ') → CallOK Tryd.prog T 21 [(tInt .i64).av x0, tStr.av x1] σ ((tPair t_ref21_Cmd (tInt .i64)).av v) σ'
theorem fn_ref21_behind : T.fn 21 = some Tryd.f21 := by kernel_rfl
def Ok_ref21_Parse (w : ByteArray → Heap → Option ((ref21_Cmd × Int) × Heap)) : Prop := ∀ x0 σ v σ', w x0 σ = some (v, σ') → CallOK Tryd.prog T 10 [tStr.av x0] σ ((tPair t_ref21_Cmd (tInt .i64)).av v) σ'
theorem fn_ref21_Parse : T.fn 10 = some Tryd.f10 := by kernel_rfl
def Ok_law21_same (w : command_Command → ref21_Cmd → Heap → Option (Bool × Heap)) : Prop := ∀ x0 x1 σ v σ', w x0 x1 σ = some (v, σ') → CallOK Tryd.prog T 11 [t_command_Command.av x0, t_ref21_Cmd.av x1] σ (tBool.av v) σ'
theorem fn_law21_same : T.fn 11 = some Tryd.f11 := by kernel_rfl
def Ok_law21_CommandParses (w : ByteArray → Heap → Option (Bool × Heap)) : Prop := ∀ x0 σ v σ', w x0 σ = some (v, σ') → CallOK Tryd.prog T 3 [tStr.av x0] σ (tBool.av v) σ'
theorem fn_law21_CommandParses : T.fn 3 = some Tryd.f3 := by kernel_rfl
def Ok_command_Table_Bind (w : Sl → Int → ByteArray → Heap → Option (Sl × Heap)) : Prop := ∀ x0 x1 x2 σ v σ', w x0 x1 x2 σ = some (v, σ') → CallOK Tryd.prog T 22 [(tSl 2).av x0, (tInt .u8).av x1, tStr.av x2] σ ((tSl 2).av v) σ'
theorem fn_command_Table_Bind : T.fn 22 = some Tryd.f22 := by kernel_rfl
def Ok_law21_table (w : Sl → Heap → Option (Sl × Heap)) : Prop := ∀ x0 σ v σ', w x0 σ = some (v, σ') → CallOK Tryd.prog T 12 [(tSl 2).av x0] σ ((tSl 2).av v) σ'
theorem fn_law21_table : T.fn 12 = some Tryd.f12 := by kernel_rfl
def Ok_ref21_Standard (w : Int → Heap → Option (ByteArray × Heap)) : Prop := ∀ x0 σ v σ', w x0 σ = some (v, σ') → CallOK Tryd.prog T 23 [(tInt .u8).av x0] σ (tStr.av v) σ'
theorem fn_ref21_Standard : T.fn 23 = some Tryd.f23 := by kernel_rfl
def Ok_law21_bound (w : Sl → Int → Heap → Option (ByteArray × Heap)) : Prop := ∀ x0 x1 σ v σ', w x0 x1 σ = some (v, σ') → CallOK Tryd.prog T 13 [(tSl 2).av x0, (tInt .u8).av x1] σ (tStr.av v) σ'
theorem fn_law21_bound : T.fn 13 = some Tryd.f13 := by kernel_rfl
def Ok_law21_CommandTables (w : Sl → Int → Heap → Option (Bool × Heap)) : Prop := ∀ x0 x1 σ v σ', w x0 x1 σ = some (v, σ') → CallOK Tryd.prog T 4 [(tSl 2).av x0, (tInt .u8).av x1] σ (tBool.av v) σ'
theorem fn_law21_CommandTables : T.fn 4 = some Tryd.f4 := by kernel_rfl
def Ok_command_Print (w : command_Command → Heap → Option (ByteArray × Heap)) : Prop := ∀ x0 σ v σ', w x0 σ = some (v, σ') → CallOK Tryd.prog T 15 [t_command_Command.av x0] σ (tStr.av v) σ'
theorem fn_command_Print : T.fn 15 = some Tryd.f15 := by kernel_rfl
def Ok_law21_CommandAny (w : ByteArray → Heap → Option (Bool × Heap)) : Prop := ∀ x0 σ v σ', w x0 σ = some (v, σ') → CallOK Tryd.prog T 5 [tStr.av x0] σ (tBool.av v) σ'
theorem fn_law21_CommandAny : T.fn 5 = some Tryd.f5 := by kernel_rfl
def Ok_law21_CommandBack (w : Int → Arr_2_Int → ByteArray → Heap → Option (Bool × Heap)) : Prop := ∀ x0 x1 x2 σ v σ', w x0 x1 x2 σ = some (v, σ') → CallOK Tryd.prog T 6 [(tInt .i64).av x0, t_Arr_2_Int.av x1, tStr.av x2] σ (tBool.av v) σ'
theorem fn_law21_CommandBack : T.fn 6 = some Tryd.f6 := by kernel_rfl
def Ok_command_Keys_Feed (w : command_Keys → Int → Sl → Heap → Option ((command_Keys × ByteArray × Bool) × Heap)) : Prop := ∀ x0 x1 x2 σ v σ', w x0 x1 x2 σ = some (v, σ') → CallOK Tryd.prog T 16 [t_command_Keys.av x0, (tInt .u8).av x1, (tSl 2).av x2] σ ((tTrip t_command_Keys tStr tBool).av v) σ'
theorem fn_command_Keys_Feed : T.fn 16 = some Tryd.f16 := by kernel_rfl
def Ok_law21_CommandKeys (w : Sl → ByteArray → Heap → Option (Bool × Heap)) : Prop := ∀ x0 x1 σ v σ', w x0 x1 σ = some (v, σ') → CallOK Tryd.prog T 7 [(tSl 2).av x0, tStr.av x1] σ (tBool.av v) σ'
theorem fn_law21_CommandKeys : T.fn 7 = some Tryd.f7 := by kernel_rfl
def Ok_internal_stringslite_Cut (w : ByteArray → ByteArray → Heap → Option ((ByteArray × ByteArray × Bool) × Heap)) : Prop := ∀ x0 x1 σ v σ', w x0 x1 σ = some (v, σ') → CallOK Tryd.prog T 25 [tStr.av x0, tStr.av x1] σ ((tTrip tStr tStr tBool).av v) σ'
theorem fn_internal_stringslite_Cut : T.fn 25 = some Tryd.f25 := by kernel_rfl
def Ok_internal_strconv_Itoa (w : Int → Heap → Option (ByteArray × Heap)) : Prop := ∀ x0 σ v σ', w x0 σ = some (v, σ') → CallOK Tryd.prog T 32 [(tInt .i64).av x0] σ (tStr.av v) σ'
theorem fn_internal_strconv_Itoa : T.fn 32 = some Tryd.f32 := by kernel_rfl
def Ok_internal_stringslite_Index (w : ByteArray → ByteArray → Heap → Option (Int × Heap)) : Prop := ∀ x0 x1 σ v σ', w x0 x1 σ = some (v, σ') → CallOK Tryd.prog T 33 [tStr.av x0, tStr.av x1] σ ((tInt .i64).av v) σ'
theorem fn_internal_stringslite_Index : T.fn 33 = some Tryd.f33 := by kernel_rfl
def Ok_internal_strconv_FormatInt (w : Int → Int → Heap → Option (ByteArray × Heap)) : Prop := ∀ x0 x1 σ v σ', w x0 x1 σ = some (v, σ') → CallOK Tryd.prog T 35 [(tInt .i64).av x0, (tInt .i64).av x1] σ (tStr.av v) σ'
theorem fn_internal_strconv_FormatInt : T.fn 35 = some Tryd.f35 := by kernel_rfl
def Ok_internal_stringslite_IndexByte (w : ByteArray → Int → Heap → Option (Int × Heap)) : Prop := ∀ x0 x1 σ v σ', w x0 x1 σ = some (v, σ') → CallOK Tryd.prog T 36 [tStr.av x0, (tInt .u8).av x1] σ ((tInt .i64).av v) σ'
theorem fn_internal_stringslite_IndexByte : T.fn 36 = some Tryd.f36 := by kernel_rfl
def Ok_internal_bytealg_Cutover (w : Int → Heap → Option (Int × Heap)) : Prop := ∀ x0 σ v σ', w x0 σ = some (v, σ') → CallOK Tryd.prog T 38 [(tInt .i64).av x0] σ ((tInt .i64).av v) σ'
theorem fn_internal_bytealg_Cutover : T.fn 38 = some Tryd.f38 := by kernel_rfl
def Ok_internal_bytealg_IndexRabinKarp (w : ByteArray → ByteArray → Heap → Option (Int × Heap)) : Prop := ∀ x0 x1 σ v σ', w x0 x1 σ = some (v, σ') → CallOK Tryd.prog T 39 [tStr.av x0, tStr.av x1] σ ((tInt .i64).av v) σ'
theorem fn_internal_bytealg_IndexRabinKarp : T.fn 39 = some Tryd.f39 := by kernel_rfl
def Ok_internal_strconv_Atoi (w : ByteArray → Heap → Option ((Int × Er) × Heap)) : Prop := ∀ x0 σ v σ', w x0 σ = some (v, σ') → CallOK Tryd.prog T 40 [tStr.av x0] σ ((tPair (tInt .i64) tErr).av v) σ'
theorem fn_internal_strconv_Atoi : T.fn 40 = some Tryd.f40 := by kernel_rfl
def Ok_strconv_toError (w : ByteArray → ByteArray → Int → Int → Er → Heap → Option (Er × Heap)) : Prop := ∀ x0 x1 x2 x3 x4 σ v σ', w x0 x1 x2 x3 x4 σ = some (v, σ') → CallOK Tryd.prog T 41 [tStr.av x0, tStr.av x1, (tInt .i64).av x2, (tInt .i64).av x3, tErr.av x4] σ (tErr.av v) σ'
theorem fn_strconv_toError : T.fn 41 = some Tryd.f41 := by kernel_rfl
def Ok_internal_strconv_small (w : Int → Heap → Option (ByteArray × Heap)) : Prop := ∀ x0 σ v σ', w x0 σ = some (v, σ') → CallOK Tryd.prog T 42 [(tInt .i64).av x0] σ (tStr.av v) σ'
theorem fn_internal_strconv_small : T.fn 42 = some Tryd.f42 := by kernel_rfl
def Ok_internal_strconv_numDigits (w : Int → Heap → Option (Int × Heap)) : Prop := ∀ x0 σ v σ', w x0 σ = some (v, σ') → CallOK Tryd.prog T 43 [(tInt .u64).av x0] σ ((tInt .i64).av v) σ'
theorem fn_internal_strconv_numDigits : T.fn 43 = some Tryd.f43 := by kernel_rfl
def Ok_internal_strconv_formatBase10 (w : Sl → Int → Heap → Option (Unit × Heap)) : Prop := ∀ x0 x1 σ v σ', w x0 x1 σ = some (v, σ') → CallOK Tryd.prog T 44 [(tSl 1).av x0, (tInt .u64).av x1] σ (tVoid.av v) σ'
theorem fn_internal_strconv_formatBase10 : T.fn 44 = some Tryd.f44 := by kernel_rfl
def Ok_internal_strconv_formatBits (w : Sl → Int → Int → Bool → Bool → Heap → Option ((Sl × ByteArray) × Heap)) : Prop := ∀ x0 x1 x2 x3 x4 σ v σ', w x0 x1 x2 x3 x4 σ = some (v, σ') → CallOK Tryd.prog T 45 [(tSl 1).av x0, (tInt .u64).av x1, (tInt .i64).av x2, tBool.av x3, tBool.av x4] σ ((tPair (tSl 1) tStr).av v) σ'
theorem fn_internal_strconv_formatBits : T.fn 45 = some Tryd.f45 := by kernel_rfl
def Ok_internal_bytealg_hashStr (w : ByteArray → Heap → Option ((Int × Int) × Heap)) : Prop := ∀ x0 σ v σ', w x0 σ = some (v, σ') → CallOK Tryd.prog T 47 [tStr.av x0] σ ((tPair (tInt .u32) (tInt .u32)).av v) σ'
theorem fn_internal_bytealg_hashStr : T.fn 47 = some Tryd.f47 := by kernel_rfl
def Ok_internal_strconv_ParseInt (w : ByteArray → Int → Int → Heap → Option ((Int × Er) × Heap)) : Prop := ∀ x0 x1 x2 σ v σ', w x0 x1 x2 σ = some (v, σ') → CallOK Tryd.prog T 48 [tStr.av x0, (tInt .i64).av x1, (tInt .i64).av x2] σ ((tPair (tInt .i64) tErr).av v) σ'
theorem fn_internal_strconv_ParseInt : T.fn 48 = some Tryd.f48 := by kernel_rfl
def Ok_strconv_syntaxError (w : ByteArray → ByteArray → Heap → Option (Pt × Heap)) : Prop := ∀ x0 x1 σ v σ', w x0 x1 σ = some (v, σ') → CallOK Tryd.prog T 49 [tStr.av x0, tStr.av x1] σ (tPtr.av v) σ'
theorem fn_strconv_syntaxError : T.fn 49 = some Tryd.f49 := by kernel_rfl
def Ok_strconv_rangeError (w : ByteArray → ByteArray → Heap → Option (Pt × Heap)) : Prop := ∀ x0 x1 σ v σ', w x0 x1 σ = some (v, σ') → CallOK Tryd.prog T 50 [tStr.av x0, tStr.av x1] σ (tPtr.av v) σ'
theorem fn_strconv_rangeError : T.fn 50 = some Tryd.f50 := by kernel_rfl
def Ok_strconv_baseError (w : ByteArray → ByteArray → Int → Heap → Option (Pt × Heap)) : Prop := ∀ x0 x1 x2 σ v σ', w x0 x1 x2 σ = some (v, σ') → CallOK Tryd.prog T 51 [tStr.av x0, tStr.av x1, (tInt .i64).av x2] σ (tPtr.av v) σ'
theorem fn_strconv_baseError : T.fn 51 = some Tryd.f51 := by kernel_rfl
def Ok_strconv_bitSizeError (w : ByteArray → ByteArray → Int → Heap → Option (Pt × Heap)) : Prop := ∀ x0 x1 x2 σ v σ', w x0 x1 x2 σ = some (v, σ') → CallOK Tryd.prog T 52 [tStr.av x0, tStr.av x1, (tInt .i64).av x2] σ (tPtr.av v) σ'
theorem fn_strconv_bitSizeError : T.fn 52 = some Tryd.f52 := by kernel_rfl
def Ok_internal_strconv_log10Pow2 (w : Int → Heap → Option (Int × Heap)) : Prop := ∀ x0 σ v σ', w x0 σ = some (v, σ') → CallOK Tryd.prog T 53 [(tInt .i64).av x0] σ ((tInt .i64).av v) σ'
theorem fn_internal_strconv_log10Pow2 : T.fn 53 = some Tryd.f53 := by kernel_rfl
def Ok_math_bits_Len64 (w : Int → Heap → Option (Int × Heap)) : Prop := ∀ x0 σ v σ', w x0 σ = some (v, σ') → CallOK Tryd.prog T 54 [(tInt .u64).av x0] σ ((tInt .i64).av v) σ'
theorem fn_math_bits_Len64 : T.fn 54 = some Tryd.f54 := by kernel_rfl
def Ok_internal_strconv_bool2 (w : Bool → Heap → Option (Int × Heap)) : Prop := ∀ x0 σ v σ', w x0 σ = some (v, σ') → CallOK Tryd.prog T 55 [tBool.av x0] σ ((tInt .i64).av v) σ'
theorem fn_internal_strconv_bool2 : T.fn 55 = some Tryd.f55 := by kernel_rfl
def Ok_internal_strconv_isPowerOfTwo (w : Int → Heap → Option (Bool × Heap)) : Prop := ∀ x0 σ v σ', w x0 σ = some (v, σ') → CallOK Tryd.prog T 56 [(tInt .i64).av x0] σ (tBool.av v) σ'
theorem fn_internal_strconv_isPowerOfTwo : T.fn 56 = some Tryd.f56 := by kernel_rfl
def Ok_math_bits_TrailingZeros (w : Int → Heap → Option (Int × Heap)) : Prop := ∀ x0 σ v σ', w x0 σ = some (v, σ') → CallOK Tryd.prog T 57 [(tInt .u64).av x0] σ ((tInt .i64).av v) σ'
theorem fn_math_bits_TrailingZeros : T.fn 57 = some Tryd.f57 := by kernel_rfl
def Ok_internal_strconv_ParseUint (w : ByteArray → Int → Int → Heap → Option ((Int × Er) × Heap)) : Prop := ∀ x0 x1 x2 σ v σ', w x0 x1 x2 σ = some (v, σ') → CallOK Tryd.prog T 58 [tStr.av x0, (tInt .i64).av x1, (tInt .i64).av x2] σ ((tPair (tInt .u64) tErr).av v) σ'
theorem fn_internal_strconv_ParseUint : T.fn 58 = some Tryd.f58 := by kernel_rfl
def Ok_internal_stringslite_Clone (w : ByteArray → Heap → Option (ByteArray × Heap)) : Prop := ∀ x0 σ v σ', w x0 σ = some (v, σ') → CallOK Tryd.prog T 59 [tStr.av x0] σ (tStr.av v) σ'
theorem fn_internal_stringslite_Clone : T.fn 59 = some Tryd.f59 := by kernel_rfl
def Ok_errors_New (w : ByteArray → Heap → Option (Er × Heap)) : Prop := ∀ x0 σ v σ', w x0 σ = some (v, σ') → CallOK Tryd.prog T 60 [tStr.av x0] σ (tErr.av v) σ'
theorem fn_errors_New : T.fn 60 = some Tryd.f60 := by kernel_rfl
def Ok_math_bits_TrailingZeros32 (w : Int → Heap → Option (Int × Heap)) : Prop := ∀ x0 σ v σ', w x0 σ = some (v, σ') → CallOK Tryd.prog T 61 [(tInt .u32).av x0] σ ((tInt .i64).av v) σ'
theorem fn_math_bits_TrailingZeros32 : T.fn 61 = some Tryd.f61 := by kernel_rfl
def Ok_math_bits_TrailingZeros64 (w : Int → Heap → Option (Int × Heap)) : Prop := ∀ x0 σ v σ', w x0 σ = some (v, σ') → CallOK Tryd.prog T 62 [(tInt .u64).av x0] σ ((tInt .i64).av v) σ'
theorem fn_math_bits_TrailingZeros64 : T.fn 62 = some Tryd.f62 := by kernel_rfl
def Ok_internal_strconv_lower (w : Int → Heap → Option (Int × Heap)) : Prop := ∀ x0 σ v σ', w x0 σ = some (v, σ') → CallOK Tryd.prog T 63 [(tInt .u8).av x0] σ ((tInt .u8).av v) σ'
theorem fn_internal_strconv_lower : T.fn 63 = some Tryd.f63 := by kernel_rfl
def Ok_internal_strconv_underscoreOK (w : ByteArray → Heap → Option (Bool × Heap)) : Prop := ∀ x0 σ v σ', w x0 σ = some (v, σ') → CallOK Tryd.prog T 64 [tStr.av x0] σ (tBool.av v) σ'
theorem fn_internal_strconv_underscoreOK : T.fn 64 = some Tryd.f64 := by kernel_rfl
def Ok_gosem_cut_vars (w : Heap → Option (Unit × Heap)) : Prop := ∀ σ v σ', w σ = some (v, σ') → CallOK Tryd.prog T 93 [] σ (tVoid.av v) σ'
theorem fn_gosem_cut_vars : T.fn 93 = some Tryd.f93 := by kernel_rfl
structure C_command_number where
  strconv_Itoa : Int → Heap → Option (ByteArray × Heap)
  strconv_Atoi : ByteArray → Heap → Option ((Int × Er) × Heap)
noncomputable def O_command_number (w : C_command_number) : Known := ((known0).and 24 (g1 (tInt .i64) tStr w.strconv_Itoa)).and 34 (g1 tStr (tPair (tInt .i64) tErr) w.strconv_Atoi)
theorem K_command_number (w : C_command_number) (h_strconv_Itoa : Ok_strconv_Itoa w.strconv_Itoa) (h_strconv_Atoi : Ok_strconv_Atoi w.strconv_Atoi) : KnownOK Tryd.prog T (O_command_number w) :=
  known_ok ok (known_ok ok (known0_ok) fn_strconv_Itoa (by kernel_rfl) (g1_ok h_strconv_Itoa)) fn_strconv_Atoi (by kernel_rfl) (g1_ok h_strconv_Atoi)
structure C_command_pair where
  strings_Cut : ByteArray → ByteArray → Heap → Option ((ByteArray × ByteArray × Bool) × Heap)
  command_number : ByteArray → Heap → Option ((Int × Bool) × Heap)
noncomputable def O_command_pair (w : C_command_pair) : Known := ((known0).and 18 (g2 tStr tStr (tTrip tStr tStr tBool) w.strings_Cut)).and 26 (g1 tStr (tPair (tInt .i64) tBool) w.command_number)
theorem K_command_pair (w : C_command_pair) (h_strings_Cut : Ok_strings_Cut w.strings_Cut) (h_command_number : Ok_command_number w.command_number) : KnownOK Tryd.prog T (O_command_pair w) :=
  known_ok ok (known_ok ok (known0_ok) fn_strings_Cut (by kernel_rfl) (g2_ok h_strings_Cut)) fn_command_number (by kernel_rfl) (g1_ok h_command_number)
structure C_command_Command_bound where
  command_Parse : ByteArray → Heap → Option ((command_Command × Int) × Heap)
  strings_Cut : ByteArray → ByteArray → Heap → Option ((ByteArray × ByteArray × Bool) × Heap)
  command_key : ByteArray → Heap → Option (Bool × Heap)
noncomputable def O_command_Command_bound (w : C_command_Command_bound) : Known := (((known0).and 9 (g1 tStr (tPair t_command_Command (tInt .i64)) w.command_Parse)).and 18 (g2 tStr tStr (tTrip tStr tStr tBool) w.strings_Cut)).and 29 (g1 tStr tBool w.command_key)
theorem K_command_Command_bound (w : C_command_Command_bound) (h_command_Parse : Ok_command_Parse w.command_Parse) (h_strings_Cut : Ok_strings_Cut w.strings_Cut) (h_command_key : Ok_command_key w.command_key) : KnownOK Tryd.prog T (O_command_Command_bound w) :=
  known_ok ok (known_ok ok (known_ok ok (known0_ok) fn_command_Parse (by kernel_rfl) (g1_ok h_command_Parse)) fn_strings_Cut (by kernel_rfl) (g2_ok h_strings_Cut)) fn_command_key (by kernel_rfl) (g1_ok h_command_key)
structure C_command_Command_fill where
  command_number : ByteArray → Heap → Option ((Int × Bool) × Heap)
  command_pair : ByteArray → Heap → Option ((Int × Int × Bool) × Heap)
  command_Command_bound : Pt → ByteArray → Heap → Option (Int × Heap)
  command_key : ByteArray → Heap → Option (Bool × Heap)
noncomputable def O_command_Command_fill (w : C_command_Command_fill) : Known := ((((known0).and 26 (g1 tStr (tPair (tInt .i64) tBool) w.command_number)).and 27 (g1 tStr (tTrip (tInt .i64) (tInt .i64) tBool) w.command_pair)).and 28 (g2 tPtr tStr (tInt .i64) w.command_Command_bound)).and 29 (g1 tStr tBool w.command_key)
theorem K_command_Command_fill (w : C_command_Command_fill) (h_command_number : Ok_command_number w.command_number) (h_command_pair : Ok_command_pair w.command_pair) (h_command_Command_bound : Ok_command_Command_bound w.command_Command_bound) (h_command_key : Ok_command_key w.command_key) : KnownOK Tryd.prog T (O_command_Command_fill w) :=
  known_ok ok (known_ok ok (known_ok ok (known_ok ok (known0_ok) fn_command_number (by kernel_rfl) (g1_ok h_command_number)) fn_command_pair (by kernel_rfl) (g1_ok h_command_pair)) fn_command_Command_bound (by kernel_rfl) (g2_ok h_command_Command_bound)) fn_command_key (by kernel_rfl) (g1_ok h_command_key)
structure C_command_Parse where
  strings_Cut : ByteArray → ByteArray → Heap → Option ((ByteArray × ByteArray × Bool) × Heap)
  command_Command_fill : Pt → ByteArray → Bool → Heap → Option (Int × Heap)
noncomputable def O_command_Parse (w : C_command_Parse) : Known := ((known0).and 18 (g2 tStr tStr (tTrip tStr tStr tBool) w.strings_Cut)).and 19 (g3 tPtr tStr tBool (tInt .i64) w.command_Command_fill)
theorem K_command_Parse (w : C_command_Parse) (h_strings_Cut : Ok_strings_Cut w.strings_Cut) (h_command_Command_fill : Ok_command_Command_fill w.command_Command_fill) : KnownOK Tryd.prog T (O_command_Parse w) :=
  known_ok ok (known_ok ok (known0_ok) fn_strings_Cut (by kernel_rfl) (g2_ok h_strings_Cut)) fn_command_Command_fill (by kernel_rfl) (g3_ok h_command_Command_fill)
structure C_law21_fit where
  command_Parse : ByteArray → Heap → Option ((command_Command × Int) × Heap)
  command_Table_Find : Sl → Int → Heap → Option (ByteArray × Heap)
  command_Standard : Heap → Option (Sl × Heap)
noncomputable def O_law21_fit (w : C_law21_fit) : Known := (((known0).and 9 (g1 tStr (tPair t_command_Command (tInt .i64)) w.command_Parse)).and 14 (g2 (tSl 2) (tInt .u8) tStr w.command_Table_Find)).and 17 (g0  (tSl 2) w.command_Standard)
theorem K_law21_fit (w : C_law21_fit) (h_command_Parse : Ok_command_Parse w.command_Parse) (h_command_Table_Find : Ok_command_Table_Find w.command_Table_Find) (h_command_Standard : Ok_command_Standard w.command_Standard) : KnownOK Tryd.prog T (O_law21_fit w) :=
  known_ok ok (known_ok ok (known_ok ok (known0_ok) fn_command_Parse (by kernel_rfl) (g1_ok h_command_Parse)) fn_command_Table_Find (by kernel_rfl) (g2_ok h_command_Table_Find)) fn_command_Standard (by kernel_rfl) (g0_ok h_command_Standard)
structure C_ref21_pair where
  ref21_number : ByteArray → Heap → Option ((Int × Bool) × Heap)
noncomputable def O_ref21_pair (w : C_ref21_pair) : Known := (known0).and 30 (g1 tStr (tPair (tInt .i64) tBool) w.ref21_number)
theorem K_ref21_pair (w : C_ref21_pair) (h_ref21_number : Ok_ref21_number w.ref21_number) : KnownOK Tryd.prog T (O_ref21_pair w) :=
  known_ok ok (known0_ok) fn_ref21_number (by kernel_rfl) (g1_ok h_ref21_number)
structure C_ref21_behind where
  ref21_Parse : ByteArray → Heap → Option ((ref21_Cmd × Int) × Heap)
  ref21_number : ByteArray → Heap → Option ((Int × Bool) × Heap)
  ref21_pair : ByteArray → Heap → Option ((Int × Int × Bool) × Heap)
noncomputable def O_ref21_behind (w : C_ref21_behind) : Known := (((known0).and 10 (g1 tStr (tPair t_ref21_Cmd (tInt .i64)) w.ref21_Parse)).and 30 (g1 tStr (tPair (tInt .i64) tBool) w.ref21_number)).and 31 (g1 tStr (tTrip (tInt .i64) (tInt .i64) tBool) w.ref21_pair)
theorem K_ref21_behind (w : C_ref21_behind) (h_ref21_Parse : Ok_ref21_Parse w.ref21_Parse) (h_ref21_number : Ok_ref21_number w.ref21_number) (h_ref21_pair : Ok_ref21_pair w.ref21_pair) : KnownOK Tryd.prog T (O_ref21_behind w) :=
  known_ok ok (known_ok ok (known_ok ok (known0_ok) fn_ref21_Parse (by kernel_rfl) (g1_ok h_ref21_Parse)) fn_ref21_number (by kernel_rfl) (g1_ok h_ref21_number)) fn_ref21_pair (by kernel_rfl) (g1_ok h_ref21_pair)
structure C_ref21_Parse where
  ref21_Word : Int → Heap → Option (ByteArray × Heap)
  ref21_behind : Int → ByteArray → Heap → Option ((ref21_Cmd × Int) × Heap)
noncomputable def O_ref21_Parse (w : C_ref21_Parse) : Known := ((known0).and 20 (g1 (tInt .i64) tStr w.ref21_Word)).and 21 (g2 (tInt .i64) tStr (tPair t_ref21_Cmd (tInt .i64)) w.ref21_behind)
theorem K_ref21_Parse (w : C_ref21_Parse) (h_ref21_Word : Ok_ref21_Word w.ref21_Word) (h_ref21_behind : Ok_ref21_behind w.ref21_behind) : KnownOK Tryd.prog T (O_ref21_Parse w) :=
  known_ok ok (known_ok ok (known0_ok) fn_ref21_Word (by kernel_rfl) (g1_ok h_ref21_Word)) fn_ref21_behind (by kernel_rfl) (g2_ok h_ref21_behind)
structure C_law21_CommandParses where
  law21_fit : Heap → Option (Bool × Heap)
  command_Parse : ByteArray → Heap → Option ((command_Command × Int) × Heap)
  ref21_Parse : ByteArray → Heap → Option ((ref21_Cmd × Int) × Heap)
  law21_same : command_Command → ref21_Cmd → Heap → Option (Bool × Heap)
noncomputable def O_law21_CommandParses (w : C_law21_CommandParses) : Known := ((((known0).and 8 (g0  tBool w.law21_fit)).and 9 (g1 tStr (tPair t_command_Command (tInt .i64)) w.command_Parse)).and 10 (g1 tStr (tPair t_ref21_Cmd (tInt .i64)) w.ref21_Parse)).and 11 (g2 t_command_Command t_ref21_Cmd tBool w.law21_same)
theorem K_law21_CommandParses (w : C_law21_CommandParses) (h_law21_fit : Ok_law21_fit w.law21_fit) (h_command_Parse : Ok_command_Parse w.command_Parse) (h_ref21_Parse : Ok_ref21_Parse w.ref21_Parse) (h_law21_same : Ok_law21_same w.law21_same) : KnownOK Tryd.prog T (O_law21_CommandParses w) :=
  known_ok ok (known_ok ok (known_ok ok (known_ok ok (known0_ok) fn_law21_fit (by kernel_rfl) (g0_ok h_law21_fit)) fn_command_Parse (by kernel_rfl) (g1_ok h_command_Parse)) fn_ref21_Parse (by kernel_rfl) (g1_ok h_ref21_Parse)) fn_law21_same (by kernel_rfl) (g2_ok h_law21_same)
structure C_law21_table where
  command_Standard : Heap → Option (Sl × Heap)
  command_Table_Bind : Sl → Int → ByteArray → Heap → Option (Sl × Heap)
noncomputable def O_law21_table (w : C_law21_table) : Known := ((known0).and 17 (g0  (tSl 2) w.command_Standard)).and 22 (g3 (tSl 2) (tInt .u8) tStr (tSl 2) w.command_Table_Bind)
theorem K_law21_table (w : C_law21_table) (h_command_Standard : Ok_command_Standard w.command_Standard) (h_command_Table_Bind : Ok_command_Table_Bind w.command_Table_Bind) : KnownOK Tryd.prog T (O_law21_table w) :=
  known_ok ok (known_ok ok (known0_ok) fn_command_Standard (by kernel_rfl) (g0_ok h_command_Standard)) fn_command_Table_Bind (by kernel_rfl) (g3_ok h_command_Table_Bind)
structure C_law21_bound where
  ref21_Standard : Int → Heap → Option (ByteArray × Heap)
noncomputable def O_law21_bound (w : C_law21_bound) : Known := (known0).and 23 (g1 (tInt .u8) tStr w.ref21_Standard)
theorem K_law21_bound (w : C_law21_bound) (h_ref21_Standard : Ok_ref21_Standard w.ref21_Standard) : KnownOK Tryd.prog T (O_law21_bound w) :=
  known_ok ok (known0_ok) fn_ref21_Standard (by kernel_rfl) (g1_ok h_ref21_Standard)
structure C_law21_CommandTables where
  law21_fit : Heap → Option (Bool × Heap)
  law21_table : Sl → Heap → Option (Sl × Heap)
  law21_bound : Sl → Int → Heap → Option (ByteArray × Heap)
  command_Table_Find : Sl → Int → Heap → Option (ByteArray × Heap)
noncomputable def O_law21_CommandTables (w : C_law21_CommandTables) : Known := ((((known0).and 8 (g0  tBool w.law21_fit)).and 12 (g1 (tSl 2) (tSl 2) w.law21_table)).and 13 (g2 (tSl 2) (tInt .u8) tStr w.law21_bound)).and 14 (g2 (tSl 2) (tInt .u8) tStr w.command_Table_Find)
theorem K_law21_CommandTables (w : C_law21_CommandTables) (h_law21_fit : Ok_law21_fit w.law21_fit) (h_law21_table : Ok_law21_table w.law21_table) (h_law21_bound : Ok_law21_bound w.law21_bound) (h_command_Table_Find : Ok_command_Table_Find w.command_Table_Find) : KnownOK Tryd.prog T (O_law21_CommandTables w) :=
  known_ok ok (known_ok ok (known_ok ok (known_ok ok (known0_ok) fn_law21_fit (by kernel_rfl) (g0_ok h_law21_fit)) fn_law21_table (by kernel_rfl) (g1_ok h_law21_table)) fn_law21_bound (by kernel_rfl) (g2_ok h_law21_bound)) fn_command_Table_Find (by kernel_rfl) (g2_ok h_command_Table_Find)
structure C_command_Print where
  strconv_Itoa : Int → Heap → Option (ByteArray × Heap)
noncomputable def O_command_Print (w : C_command_Print) : Known := (known0).and 24 (g1 (tInt .i64) tStr w.strconv_Itoa)
theorem K_command_Print (w : C_command_Print) (h_strconv_Itoa : Ok_strconv_Itoa w.strconv_Itoa) : KnownOK Tryd.prog T (O_command_Print w) :=
  known_ok ok (known0_ok) fn_strconv_Itoa (by kernel_rfl) (g1_ok h_strconv_Itoa)
structure C_law21_CommandAny where
  law21_fit : Heap → Option (Bool × Heap)
  command_Parse : ByteArray → Heap → Option ((command_Command × Int) × Heap)
  command_Print : command_Command → Heap → Option (ByteArray × Heap)
noncomputable def O_law21_CommandAny (w : C_law21_CommandAny) : Known := (((known0).and 8 (g0  tBool w.law21_fit)).and 9 (g1 tStr (tPair t_command_Command (tInt .i64)) w.command_Parse)).and 15 (g1 t_command_Command tStr w.command_Print)
theorem K_law21_CommandAny (w : C_law21_CommandAny) (h_law21_fit : Ok_law21_fit w.law21_fit) (h_command_Parse : Ok_command_Parse w.command_Parse) (h_command_Print : Ok_command_Print w.command_Print) : KnownOK Tryd.prog T (O_law21_CommandAny w) :=
  known_ok ok (known_ok ok (known_ok ok (known0_ok) fn_law21_fit (by kernel_rfl) (g0_ok h_law21_fit)) fn_command_Parse (by kernel_rfl) (g1_ok h_command_Parse)) fn_command_Print (by kernel_rfl) (g1_ok h_command_Print)
structure C_law21_CommandBack where
  law21_fit : Heap → Option (Bool × Heap)
  command_Parse : ByteArray → Heap → Option ((command_Command × Int) × Heap)
  command_Print : command_Command → Heap → Option (ByteArray × Heap)
noncomputable def O_law21_CommandBack (w : C_law21_CommandBack) : Known := (((known0).and 8 (g0  tBool w.law21_fit)).and 9 (g1 tStr (tPair t_command_Command (tInt .i64)) w.command_Parse)).and 15 (g1 t_command_Command tStr w.command_Print)
theorem K_law21_CommandBack (w : C_law21_CommandBack) (h_law21_fit : Ok_law21_fit w.law21_fit) (h_command_Parse : Ok_command_Parse w.command_Parse) (h_command_Print : Ok_command_Print w.command_Print) : KnownOK Tryd.prog T (O_law21_CommandBack w) :=
  known_ok ok (known_ok ok (known_ok ok (known0_ok) fn_law21_fit (by kernel_rfl) (g0_ok h_law21_fit)) fn_command_Parse (by kernel_rfl) (g1_ok h_command_Parse)) fn_command_Print (by kernel_rfl) (g1_ok h_command_Print)
structure C_command_Keys_Feed where
  command_Table_Find : Sl → Int → Heap → Option (ByteArray × Heap)
noncomputable def O_command_Keys_Feed (w : C_command_Keys_Feed) : Known := (known0).and 14 (g2 (tSl 2) (tInt .u8) tStr w.command_Table_Find)
theorem K_command_Keys_Feed (w : C_command_Keys_Feed) (h_command_Table_Find : Ok_command_Table_Find w.command_Table_Find) : KnownOK Tryd.prog T (O_command_Keys_Feed w) :=
  known_ok ok (known0_ok) fn_command_Table_Find (by kernel_rfl) (g2_ok h_command_Table_Find)
structure C_law21_CommandKeys where
  law21_fit : Heap → Option (Bool × Heap)
  law21_table : Sl → Heap → Option (Sl × Heap)
  law21_bound : Sl → Int → Heap → Option (ByteArray × Heap)
  command_Keys_Feed : command_Keys → Int → Sl → Heap → Option ((command_Keys × ByteArray × Bool) × Heap)
noncomputable def O_law21_CommandKeys (w : C_law21_CommandKeys) : Known := ((((known0).and 8 (g0  tBool w.law21_fit)).and 12 (g1 (tSl 2) (tSl 2) w.law21_table)).and 13 (g2 (tSl 2) (tInt .u8) tStr w.law21_bound)).and 16 (g3 t_command_Keys (tInt .u8) (tSl 2) (tTrip t_command_Keys tStr tBool) w.command_Keys_Feed)
theorem K_law21_CommandKeys (w : C_law21_CommandKeys) (h_law21_fit : Ok_law21_fit w.law21_fit) (h_law21_table : Ok_law21_table w.law21_table) (h_law21_bound : Ok_law21_bound w.law21_bound) (h_command_Keys_Feed : Ok_command_Keys_Feed w.command_Keys_Feed) : KnownOK Tryd.prog T (O_law21_CommandKeys w) :=
  known_ok ok (known_ok ok (known_ok ok (known_ok ok (known0_ok) fn_law21_fit (by kernel_rfl) (g0_ok h_law21_fit)) fn_law21_table (by kernel_rfl) (g1_ok h_law21_table)) fn_law21_bound (by kernel_rfl) (g2_ok h_law21_bound)) fn_command_Keys_Feed (by kernel_rfl) (g3_ok h_command_Keys_Feed)
end Go.Abs.TD
