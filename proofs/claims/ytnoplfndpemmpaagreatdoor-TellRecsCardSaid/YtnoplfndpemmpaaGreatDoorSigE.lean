/-
What is known of each function, by its callees.
-/
import Derived.Test.YtnoplfndpemmpaaGreatDoorTypE
namespace Go.Abs.TE
open Go Go.Abs Go.Proofs
def Ok_vary_Of (w : Sl → Heap → Option (Pt × Heap)) : Prop := ∀ x0 σ v σ', w x0 σ = some (v, σ') → CallOK Tryz.prog T 12 [(tSl 1).av x0] σ (tPtr.av v) σ'
theorem fn_vary_Of : T.fn 12 = some Tryz.f12 := by kernel_rfl
def Ok_vary_Reader_Done (w : Pt → Heap → Option (Bool × Heap)) : Prop := ∀ x0 σ v σ', w x0 σ = some (v, σ') → CallOK Tryz.prog T 30 [tPtr.av x0] σ (tBool.av v) σ'
theorem fn_vary_Reader_Done : T.fn 30 = some Tryz.f30 := by kernel_rfl
def Ok_vary_Take (w : Sl → Heap → Option ((Int × Int) × Heap)) : Prop := ∀ x0 σ v σ', w x0 σ = some (v, σ') → CallOK Tryz.prog T 51 [(tSl 1).av x0] σ ((tPair (tInt .u64) (tInt .i64)).av v) σ'
theorem fn_vary_Take : T.fn 51 = some Tryz.f51 := by kernel_rfl
def Ok_vary_Reader_Num (w : Pt → Int → Heap → Option (Int × Heap)) : Prop := ∀ x0 x1 σ v σ', w x0 x1 σ = some (v, σ') → CallOK Tryz.prog T 32 [tPtr.av x0, (tInt .i64).av x1] σ ((tInt .i64).av v) σ'
theorem fn_vary_Reader_Num : T.fn 32 = some Tryz.f32 := by kernel_rfl
def Ok_vary_Reader_Text (w : Pt → Int → Heap → Option (ByteArray × Heap)) : Prop := ∀ x0 x1 σ v σ', w x0 x1 σ = some (v, σ') → CallOK Tryz.prog T 33 [tPtr.av x0, (tInt .i64).av x1] σ (tStr.av v) σ'
theorem fn_vary_Reader_Text : T.fn 33 = some Tryz.f33 := by kernel_rfl
def Ok_vary_Reader_Good (w : Pt → Heap → Option (Bool × Heap)) : Prop := ∀ x0 σ v σ', w x0 σ = some (v, σ') → CallOK Tryz.prog T 34 [tPtr.av x0] σ (tBool.av v) σ'
theorem fn_vary_Reader_Good : T.fn 34 = some Tryz.f34 := by kernel_rfl
def Ok_script_take (w : Pt → Heap → Option ((api_Op × Bool) × Heap)) : Prop := ∀ x0 σ v σ', w x0 σ = some (v, σ') → CallOK Tryz.prog T 31 [tPtr.av x0] σ ((tPair t_api_Op tBool).av v) σ'
theorem fn_script_take : T.fn 31 = some Tryz.f31 := by kernel_rfl
def Ok_script_Decode (w : Sl → Heap → Option (Sl × Heap)) : Prop := ∀ x0 σ v σ', w x0 σ = some (v, σ') → CallOK Tryz.prog T 11 [(tSl 1).av x0] σ ((tSl 7).av v) σ'
theorem fn_script_Decode : T.fn 11 = some Tryz.f11 := by kernel_rfl
def Ok_file_New (w : Int → Heap → Option (Pt × Heap)) : Prop := ∀ x0 σ v σ', w x0 σ = some (v, σ') → CallOK Tryz.prog T 44 [(tInt .i64).av x0] σ (tPtr.av v) σ'
theorem fn_file_New : T.fn 44 = some Tryz.f44 := by kernel_rfl
def Ok_layout_New (w : Int → Heap → Option (Pt × Heap)) : Prop := ∀ x0 σ v σ', w x0 σ = some (v, σ') → CallOK Tryz.prog T 45 [(tInt .i64).av x0] σ (tPtr.av v) σ'
theorem fn_layout_New : T.fn 45 = some Tryz.f45 := by kernel_rfl
def Ok_command_Standard (w : Heap → Option (Sl × Heap)) : Prop := ∀ σ v σ', w σ = some (v, σ') → CallOK Tryz.prog T 46 [] σ ((tSl 2).av v) σ'
theorem fn_command_Standard : T.fn 46 = some Tryz.f46 := by kernel_rfl
def Ok_grid_bring (w : Int → Heap → Option (Int × Heap)) : Prop := ∀ x0 σ v σ', w x0 σ = some (v, σ') → CallOK Tryz.prog T 81 [(tInt .i64).av x0] σ ((tInt .i64).av v) σ'
theorem fn_grid_bring : T.fn 81 = some Tryz.f81 := by kernel_rfl
def Ok_math_bits_Mul64 (w : Int → Int → Heap → Option ((Int × Int) × Heap)) : Prop := ∀ x0 x1 σ v σ', w x0 x1 σ = some (v, σ') → CallOK Tryz.prog T 243 [(tInt .u64).av x0, (tInt .u64).av x1] σ ((tPair (tInt .u64) (tInt .u64)).av v) σ'
theorem fn_math_bits_Mul64 : T.fn 243 = some Tryz.f243 := by kernel_rfl
def Ok_math_bits_Mul (w : Int → Int → Heap → Option ((Int × Int) × Heap)) : Prop := ∀ x0 x1 σ v σ', w x0 x1 σ = some (v, σ') → CallOK Tryz.prog T 178 [(tInt .u64).av x0, (tInt .u64).av x1] σ ((tPair (tInt .u64) (tInt .u64)).av v) σ'
theorem fn_math_bits_Mul : T.fn 178 = some Tryz.f178 := by kernel_rfl
def Ok_slices_Repeat (w : Sl → Int → Heap → Option (Sl × Heap)) : Prop := ∀ x0 x1 σ v σ', w x0 x1 σ = some (v, σ') → CallOK Tryz.prog T 120 [(tSl 6).av x0, (tInt .i64).av x1] σ ((tSl 6).av v) σ'
theorem fn_slices_Repeat : T.fn 120 = some Tryz.f120 := by kernel_rfl
def Ok_cell_Blank (w : api_Style → Heap → Option (api_Cell × Heap)) : Prop := ∀ x0 σ v σ', w x0 σ = some (v, σ') → CallOK Tryz.prog T 121 [t_api_Style.av x0] σ (t_api_Cell.av v) σ'
theorem fn_cell_Blank : T.fn 121 = some Tryz.f121 := by kernel_rfl
def Ok_grid_blank (w : Int → api_Style → Heap → Option (Sl × Heap)) : Prop := ∀ x0 x1 σ v σ', w x0 x1 σ = some (v, σ') → CallOK Tryz.prog T 82 [(tInt .i64).av x0, t_api_Style.av x1] σ ((tSl 6).av v) σ'
theorem fn_grid_blank : T.fn 82 = some Tryz.f82 := by kernel_rfl
def Ok_grid_New (w : Int → Int → Heap → Option (Pt × Heap)) : Prop := ∀ x0 x1 σ v σ', w x0 x1 σ = some (v, σ') → CallOK Tryz.prog T 53 [(tInt .i64).av x0, (tInt .i64).av x1] σ (tPtr.av v) σ'
theorem fn_grid_New : T.fn 53 = some Tryz.f53 := by kernel_rfl
def Ok_term_Term_start (w : Pt → Int → Int → Heap → Option (Unit × Heap)) : Prop := ∀ x0 x1 x2 σ v σ', w x0 x1 x2 σ = some (v, σ') → CallOK Tryz.prog T 36 [tPtr.av x0, (tInt .i64).av x1, (tInt .i64).av x2] σ (tVoid.av v) σ'
theorem fn_term_Term_start : T.fn 36 = some Tryz.f36 := by kernel_rfl
def Ok_term_New (w : Int → Int → Heap → Option (Pt × Heap)) : Prop := ∀ x0 x1 σ v σ', w x0 x1 σ = some (v, σ') → CallOK Tryz.prog T 16 [(tInt .i64).av x0, (tInt .i64).av x1] σ (tPtr.av v) σ'
theorem fn_term_New : T.fn 16 = some Tryz.f16 := by kernel_rfl
def Ok_file_Store_Read (w : Pt → ByteArray → Heap → Option ((Sl × Int) × Heap)) : Prop := ∀ x0 x1 σ v σ', w x0 x1 σ = some (v, σ') → CallOK Tryz.prog T 98 [tPtr.av x0, tStr.av x1] σ ((tPair (tSl 1) (tInt .i64)).av v) σ'
theorem fn_file_Store_Read : T.fn 98 = some Tryz.f98 := by kernel_rfl
def Ok_vary_Put (w : Sl → Sl → Heap → Option (Sl × Heap)) : Prop := ∀ x0 x1 σ v σ', w x0 x1 σ = some (v, σ') → CallOK Tryz.prog T 28 [(tSl 1).av x0, (tSl 1).av x1] σ ((tSl 1).av v) σ'
theorem fn_vary_Put : T.fn 28 = some Tryz.f28 := by kernel_rfl
def Ok_vary_PutText (w : Sl → ByteArray → Heap → Option (Sl × Heap)) : Prop := ∀ x0 x1 σ v σ', w x0 x1 σ = some (v, σ') → CallOK Tryz.prog T 29 [(tSl 1).av x0, tStr.av x1] σ ((tSl 1).av v) σ'
theorem fn_vary_PutText : T.fn 29 = some Tryz.f29 := by kernel_rfl
def Ok_state_flags (w : Sl → Heap → Option (Int × Heap)) : Prop := ∀ x0 σ v σ', w x0 σ = some (v, σ') → CallOK Tryz.prog T 199 [(tSl 1).av x0] σ ((tInt .u64).av v) σ'
theorem fn_state_flags : T.fn 199 = some Tryz.f199 := by kernel_rfl
def Ok_cell_bits (w : api_Style → Heap → Option (Int × Heap)) : Prop := ∀ x0 σ v σ', w x0 σ = some (v, σ') → CallOK Tryz.prog T 296 [t_api_Style.av x0] σ ((tInt .u64).av v) σ'
theorem fn_cell_bits : T.fn 296 = some Tryz.f296 := by kernel_rfl
def Ok_cell_PutStyle (w : Sl → api_Style → Heap → Option (Sl × Heap)) : Prop := ∀ x0 x1 σ v σ', w x0 x1 σ = some (v, σ') → CallOK Tryz.prog T 257 [(tSl 1).av x0, t_api_Style.av x1] σ ((tSl 1).av v) σ'
theorem fn_cell_PutStyle : T.fn 257 = some Tryz.f257 := by kernel_rfl
def Ok_state_cursor (w : Sl → api_Cursor → Heap → Option (Sl × Heap)) : Prop := ∀ x0 x1 σ v σ', w x0 x1 σ = some (v, σ') → CallOK Tryz.prog T 200 [(tSl 1).av x0, t_api_Cursor.av x1] σ ((tSl 1).av v) σ'
theorem fn_state_cursor : T.fn 200 = some Tryz.f200 := by kernel_rfl
def Ok_cell_PutLine (w : Sl → Sl → Heap → Option (Sl × Heap)) : Prop := ∀ x0 x1 σ v σ', w x0 x1 σ = some (v, σ') → CallOK Tryz.prog T 201 [(tSl 1).av x0, (tSl 6).av x1] σ ((tSl 1).av v) σ'
theorem fn_cell_PutLine : T.fn 201 = some Tryz.f201 := by kernel_rfl
def Ok_state_parser (w : Sl → vt_Parser → Heap → Option (Sl × Heap)) : Prop := ∀ x0 x1 σ v σ', w x0 x1 σ = some (v, σ') → CallOK Tryz.prog T 202 [(tSl 1).av x0, t_vt_Parser.av x1] σ ((tSl 1).av v) σ'
theorem fn_state_parser : T.fn 202 = some Tryz.f202 := by kernel_rfl
def Ok_state_Encode (w : Pt → Heap → Option (Sl × Heap)) : Prop := ∀ x0 σ v σ', w x0 σ = some (v, σ') → CallOK Tryz.prog T 140 [tPtr.av x0] σ ((tSl 1).av v) σ'
theorem fn_state_Encode : T.fn 140 = some Tryz.f140 := by kernel_rfl
def Ok_log_New (w : Pt → Heap → Option (Pt × Heap)) : Prop := ∀ x0 σ v σ', w x0 σ = some (v, σ') → CallOK Tryz.prog T 99 [tPtr.av x0] σ (tPtr.av v) σ'
theorem fn_log_New : T.fn 99 = some Tryz.f99 := by kernel_rfl
def Ok_slices_Clone_ (w : Sl → Heap → Option (Sl × Heap)) : Prop := ∀ x0 σ v σ', w x0 σ = some (v, σ') → CallOK Tryz.prog T 135 [(tSl 6).av x0] σ ((tSl 6).av v) σ'
theorem fn_slices_Clone_ : T.fn 135 = some Tryz.f135 := by kernel_rfl
def Ok_grid_Grid_Copy (w : Pt → Heap → Option (Pt × Heap)) : Prop := ∀ x0 σ v σ', w x0 σ = some (v, σ') → CallOK Tryz.prog T 141 [tPtr.av x0] σ (tPtr.av v) σ'
theorem fn_grid_Grid_Copy : T.fn 141 = some Tryz.f141 := by kernel_rfl
def Ok_slices_Clone__ (w : Sl → Heap → Option (Sl × Heap)) : Prop := ∀ x0 σ v σ', w x0 σ = some (v, σ') → CallOK Tryz.prog T 142 [(tSl 1).av x0] σ ((tSl 1).av v) σ'
theorem fn_slices_Clone__ : T.fn 142 = some Tryz.f142 := by kernel_rfl
def Ok_state_Copy (w : Pt → Heap → Option (Pt × Heap)) : Prop := ∀ x0 σ v σ', w x0 σ = some (v, σ') → CallOK Tryz.prog T 100 [tPtr.av x0] σ (tPtr.av v) σ'
theorem fn_state_Copy : T.fn 100 = some Tryz.f100 := by kernel_rfl
def Ok_file_named (w : ByteArray → Heap → Option (Bool × Heap)) : Prop := ∀ x0 σ v σ', w x0 σ = some (v, σ') → CallOK Tryz.prog T 143 [tStr.av x0] σ (tBool.av v) σ'
theorem fn_file_named : T.fn 143 = some Tryz.f143 := by kernel_rfl
def Ok_file_Store_Used (w : Pt → Heap → Option (Int × Heap)) : Prop := ∀ x0 σ v σ', w x0 σ = some (v, σ') → CallOK Tryz.prog T 144 [tPtr.av x0] σ ((tInt .i64).av v) σ'
theorem fn_file_Store_Used : T.fn 144 = some Tryz.f144 := by kernel_rfl
def Ok_file_Store_change (w : Pt → Heap → Option (Int × Heap)) : Prop := ∀ x0 σ v σ', w x0 σ = some (v, σ') → CallOK Tryz.prog T 145 [tPtr.av x0] σ ((tInt .i64).av v) σ'
theorem fn_file_Store_change : T.fn 145 = some Tryz.f145 := by kernel_rfl
def Ok_file_Store_Append (w : Pt → ByteArray → Sl → Heap → Option (Int × Heap)) : Prop := ∀ x0 x1 x2 σ v σ', w x0 x1 x2 σ = some (v, σ') → CallOK Tryz.prog T 101 [tPtr.av x0, tStr.av x1, (tSl 1).av x2] σ ((tInt .i64).av v) σ'
theorem fn_file_Store_Append : T.fn 101 = some Tryz.f101 := by kernel_rfl
def Ok_log_Rec_Encode (w : Pt → Bool → Heap → Option (Sl × Heap)) : Prop := ∀ x0 x1 σ v σ', w x0 x1 σ = some (v, σ') → CallOK Tryz.prog T 102 [tPtr.av x0, tBool.av x1] σ ((tSl 1).av v) σ'
theorem fn_log_Rec_Encode : T.fn 102 = some Tryz.f102 := by kernel_rfl
def Ok_log_Create (w : Pt → ByteArray → Pt → Heap → Option ((Pt × Int) × Heap)) : Prop := ∀ x0 x1 x2 σ v σ', w x0 x1 x2 σ = some (v, σ') → CallOK Tryz.prog T 63 [tPtr.av x0, tStr.av x1, tPtr.av x2] σ ((tPair tPtr (tInt .i64)).av v) σ'
theorem fn_log_Create : T.fn 63 = some Tryz.f63 := by kernel_rfl
def Ok_internal_strconv_FormatInt (w : Int → Int → Heap → Option (ByteArray × Heap)) : Prop := ∀ x0 x1 σ v σ', w x0 x1 σ = some (v, σ') → CallOK Tryz.prog T 137 [(tInt .i64).av x0, (tInt .i64).av x1] σ (tStr.av v) σ'
theorem fn_internal_strconv_FormatInt : T.fn 137 = some Tryz.f137 := by kernel_rfl
def Ok_internal_strconv_Itoa (w : Int → Heap → Option (ByteArray × Heap)) : Prop := ∀ x0 σ v σ', w x0 σ = some (v, σ') → CallOK Tryz.prog T 96 [(tInt .i64).av x0] σ (tStr.av v) σ'
theorem fn_internal_strconv_Itoa : T.fn 96 = some Tryz.f96 := by kernel_rfl
def Ok_strconv_Itoa (w : Int → Heap → Option (ByteArray × Heap)) : Prop := ∀ x0 σ v σ', w x0 σ = some (v, σ') → CallOK Tryz.prog T 60 [(tInt .i64).av x0] σ (tStr.av v) σ'
theorem fn_strconv_Itoa : T.fn 60 = some Tryz.f60 := by kernel_rfl
def Ok_mux_Name (w : Int → Heap → Option (ByteArray × Heap)) : Prop := ∀ x0 σ v σ', w x0 σ = some (v, σ') → CallOK Tryz.prog T 64 [(tInt .i64).av x0] σ (tStr.av v) σ'
theorem fn_mux_Name : T.fn 64 = some Tryz.f64 := by kernel_rfl
def Ok_mux_Mux_open (w : Pt → Int → Heap → Option (Unit × Heap)) : Prop := ∀ x0 x1 σ v σ', w x0 x1 σ = some (v, σ') → CallOK Tryz.prog T 47 [tPtr.av x0, (tInt .i64).av x1] σ (tVoid.av v) σ'
theorem fn_mux_Mux_open : T.fn 47 = some Tryz.f47 := by kernel_rfl
def Ok_mux_Mux_fit (w : Pt → Heap → Option (Unit × Heap)) : Prop := ∀ x0 σ v σ', w x0 σ = some (v, σ') → CallOK Tryz.prog T 48 [tPtr.av x0] σ (tVoid.av v) σ'
theorem fn_mux_Mux_fit : T.fn 48 = some Tryz.f48 := by kernel_rfl
def Ok_mux_New (w : Int → Heap → Option (Pt × Heap)) : Prop := ∀ x0 σ v σ', w x0 σ = some (v, σ') → CallOK Tryz.prog T 24 [(tInt .i64).av x0] σ (tPtr.av v) σ'
theorem fn_mux_New : T.fn 24 = some Tryz.f24 := by kernel_rfl
def Ok_mux_Mux_show (w : Pt → Heap → Option (Unit × Heap)) : Prop := ∀ x0 σ v σ', w x0 σ = some (v, σ') → CallOK Tryz.prog T 109 [tPtr.av x0] σ (tVoid.av v) σ'
theorem fn_mux_Mux_show : T.fn 109 = some Tryz.f109 := by kernel_rfl
def Ok_mux_Mux_settle (w : Pt → Int → Heap → Option (Int × Heap)) : Prop := ∀ x0 x1 σ v σ', w x0 x1 σ = some (v, σ') → CallOK Tryz.prog T 69 [tPtr.av x0, (tInt .i64).av x1] σ ((tInt .i64).av v) σ'
theorem fn_mux_Mux_settle : T.fn 69 = some Tryz.f69 := by kernel_rfl
def Ok_mux_Mux_op (w : Pt → api_Op → Heap → Option (Int × Heap)) : Prop := ∀ x0 x1 σ v σ', w x0 x1 σ = some (v, σ') → CallOK Tryz.prog T 70 [tPtr.av x0, t_api_Op.av x1] σ ((tInt .i64).av v) σ'
theorem fn_mux_Mux_op : T.fn 70 = some Tryz.f70 := by kernel_rfl
def Ok_mux_Mux_Do (w : Pt → api_Op → Heap → Option (Int × Heap)) : Prop := ∀ x0 x1 σ v σ', w x0 x1 σ = some (v, σ') → CallOK Tryz.prog T 49 [tPtr.av x0, t_api_Op.av x1] σ ((tInt .i64).av v) σ'
theorem fn_mux_Mux_Do : T.fn 49 = some Tryz.f49 := by kernel_rfl
def Ok_script_Run (w : Pt → Sl → Heap → Option (Int × Heap)) : Prop := ∀ x0 x1 σ v σ', w x0 x1 σ = some (v, σ') → CallOK Tryz.prog T 25 [tPtr.av x0, (tSl 7).av x1] σ ((tInt .i64).av v) σ'
theorem fn_script_Run : T.fn 25 = some Tryz.f25 := by kernel_rfl
def Ok_mux_Mux_Now (w : Pt → Heap → Option (Int × Heap)) : Prop := ∀ x0 σ v σ', w x0 σ = some (v, σ') → CallOK Tryz.prog T 26 [tPtr.av x0] σ ((tInt .i64).av v) σ'
theorem fn_mux_Mux_Now : T.fn 26 = some Tryz.f26 := by kernel_rfl
def Ok_layout_Layout_Panes (w : Pt → Heap → Option (Sl × Heap)) : Prop := ∀ x0 σ v σ', w x0 σ = some (v, σ') → CallOK Tryz.prog T 50 [tPtr.av x0] σ ((tSl 1).av v) σ'
theorem fn_layout_Layout_Panes : T.fn 50 = some Tryz.f50 := by kernel_rfl
def Ok_mux_Mux_Panes (w : Pt → Heap → Option (Sl × Heap)) : Prop := ∀ x0 σ v σ', w x0 σ = some (v, σ') → CallOK Tryz.prog T 27 [tPtr.av x0] σ ((tSl 1).av v) σ'
theorem fn_mux_Mux_Panes : T.fn 27 = some Tryz.f27 := by kernel_rfl
def Ok_law25_fit (w : Heap → Option (Bool × Heap)) : Prop := ∀ σ v σ', w σ = some (v, σ') → CallOK Tryz.prog T 7 [] σ (tBool.av v) σ'
theorem fn_law25_fit : T.fn 7 = some Tryz.f7 := by kernel_rfl
def Ok_law25_Tame (w : Sl → Heap → Option (Sl × Heap)) : Prop := ∀ x0 σ v σ', w x0 σ = some (v, σ') → CallOK Tryz.prog T 8 [(tSl 7).av x0] σ ((tSl 7).av v) σ'
theorem fn_law25_Tame : T.fn 8 = some Tryz.f8 := by kernel_rfl
def Ok_script_Encode (w : Sl → Heap → Option (Sl × Heap)) : Prop := ∀ x0 σ v σ', w x0 σ = some (v, σ') → CallOK Tryz.prog T 9 [(tSl 7).av x0] σ ((tSl 1).av v) σ'
theorem fn_script_Encode : T.fn 9 = some Tryz.f9 := by kernel_rfl
def Ok_law25_same (w : Sl → Sl → Heap → Option (Bool × Heap)) : Prop := ∀ x0 x1 σ v σ', w x0 x1 σ = some (v, σ') → CallOK Tryz.prog T 10 [(tSl 7).av x0, (tSl 7).av x1] σ (tBool.av v) σ'
theorem fn_law25_same : T.fn 10 = some Tryz.f10 := by kernel_rfl
def Ok_law25_ScriptBack (w : Sl → Int → Heap → Option (Bool × Heap)) : Prop := ∀ x0 x1 σ v σ', w x0 x1 σ = some (v, σ') → CallOK Tryz.prog T 3 [(tSl 7).av x0, (tInt .i64).av x1] σ (tBool.av v) σ'
theorem fn_law25_ScriptBack : T.fn 3 = some Tryz.f3 := by kernel_rfl
def Ok_law25_take (w : Pt → Heap → Option ((api_Op × Bool) × Heap)) : Prop := ∀ x0 σ v σ', w x0 σ = some (v, σ') → CallOK Tryz.prog T 13 [tPtr.av x0] σ ((tPair t_api_Op tBool).av v) σ'
theorem fn_law25_take : T.fn 13 = some Tryz.f13 := by kernel_rfl
def Ok_law25_ScriptAny (w : Sl → Heap → Option (Bool × Heap)) : Prop := ∀ x0 σ v σ', w x0 σ = some (v, σ') → CallOK Tryz.prog T 4 [(tSl 1).av x0] σ (tBool.av v) σ'
theorem fn_law25_ScriptAny : T.fn 4 = some Tryz.f4 := by kernel_rfl
def Ok_strings_Builder_copyCheck (w : Pt → Heap → Option (Unit × Heap)) : Prop := ∀ x0 σ v σ', w x0 σ = some (v, σ') → CallOK Tryz.prog T 95 [tPtr.av x0] σ (tVoid.av v) σ'
theorem fn_strings_Builder_copyCheck : T.fn 95 = some Tryz.f95 := by kernel_rfl
def Ok_strings_Builder_WriteString (w : Pt → ByteArray → Heap → Option ((Int × Er) × Heap)) : Prop := ∀ x0 x1 σ v σ', w x0 x1 σ = some (v, σ') → CallOK Tryz.prog T 58 [tPtr.av x0, tStr.av x1] σ ((tPair (tInt .i64) tErr).av v) σ'
theorem fn_strings_Builder_WriteString : T.fn 58 = some Tryz.f58 := by kernel_rfl
def Ok_strings_Builder_String (w : Pt → Heap → Option (ByteArray × Heap)) : Prop := ∀ x0 σ v σ', w x0 σ = some (v, σ') → CallOK Tryz.prog T 59 [tPtr.av x0] σ (tStr.av v) σ'
theorem fn_strings_Builder_String : T.fn 59 = some Tryz.f59 := by kernel_rfl
def Ok_unicode_utf8_appendRuneNonASCII (w : Sl → Int → Heap → Option (Sl × Heap)) : Prop := ∀ x0 x1 σ v σ', w x0 x1 σ = some (v, σ') → CallOK Tryz.prog T 97 [(tSl 1).av x0, (tInt .i32).av x1] σ ((tSl 1).av v) σ'
theorem fn_unicode_utf8_appendRuneNonASCII : T.fn 97 = some Tryz.f97 := by kernel_rfl
def Ok_unicode_utf8_AppendRune (w : Sl → Int → Heap → Option (Sl × Heap)) : Prop := ∀ x0 x1 σ v σ', w x0 x1 σ = some (v, σ') → CallOK Tryz.prog T 61 [(tSl 1).av x0, (tInt .i32).av x1] σ ((tSl 1).av v) σ'
theorem fn_unicode_utf8_AppendRune : T.fn 61 = some Tryz.f61 := by kernel_rfl
def Ok_json_Quote (w : ByteArray → Heap → Option (ByteArray × Heap)) : Prop := ∀ x0 σ v σ', w x0 σ = some (v, σ') → CallOK Tryz.prog T 41 [tStr.av x0] σ (tStr.av v) σ'
theorem fn_json_Quote : T.fn 41 = some Tryz.f41 := by kernel_rfl
def Ok_grid_Grid_there (w : Pt → Int → Int → Heap → Option (Bool × Heap)) : Prop := ∀ x0 x1 x2 σ v σ', w x0 x1 x2 σ = some (v, σ') → CallOK Tryz.prog T 62 [tPtr.av x0, (tInt .i64).av x1, (tInt .i64).av x2] σ (tBool.av v) σ'
theorem fn_grid_Grid_there : T.fn 62 = some Tryz.f62 := by kernel_rfl
def Ok_grid_Grid_Text (w : Pt → Int → Heap → Option (ByteArray × Heap)) : Prop := ∀ x0 x1 σ v σ', w x0 x1 σ = some (v, σ') → CallOK Tryz.prog T 42 [tPtr.av x0, (tInt .i64).av x1] σ (tStr.av v) σ'
theorem fn_grid_Grid_Text : T.fn 42 = some Tryz.f42 := by kernel_rfl
def Ok_tell_ints (w : Sl → Heap → Option (ByteArray × Heap)) : Prop := ∀ x0 σ v σ', w x0 σ = some (v, σ') → CallOK Tryz.prog T 73 [(tSl 1).av x0] σ (tStr.av v) σ'
theorem fn_tell_ints : T.fn 73 = some Tryz.f73 := by kernel_rfl
def Ok_tell_screen_Lines (w : tell_screen → Heap → Option (Sl × Heap)) : Prop := ∀ x0 σ v σ', w x0 σ = some (v, σ') → CallOK Tryz.prog T 388 [t_tell_screen.av x0] σ ((tSl 1).av v) σ'
theorem fn_tell_screen_Lines : T.fn 388 = some Tryz.f388 := by kernel_rfl
def Ok_tell_rec_Lines (w : tell_rec → Heap → Option (Sl × Heap)) : Prop := ∀ x0 σ v σ', w x0 σ = some (v, σ') → CallOK Tryz.prog T 389 [t_tell_rec.av x0] σ ((tSl 1).av v) σ'
theorem fn_tell_rec_Lines : T.fn 389 = some Tryz.f389 := by kernel_rfl
def Ok_tell_lines (w : Sl → Heap → Option (ByteArray × Heap)) : Prop := ∀ x0 σ v σ', w x0 σ = some (v, σ') → CallOK Tryz.prog T 39 [(tSl 1).av x0] σ (tStr.av v) σ'
theorem fn_tell_lines : T.fn 39 = some Tryz.f39 := by kernel_rfl
def Ok_tell_Screen (w : Pt → Heap → Option (ByteArray × Heap)) : Prop := ∀ x0 σ v σ', w x0 σ = some (v, σ') → CallOK Tryz.prog T 18 [tPtr.av x0] σ (tStr.av v) σ'
theorem fn_tell_Screen : T.fn 18 = some Tryz.f18 := by kernel_rfl
def Ok_tell_Rec (w : Pt → Heap → Option (ByteArray × Heap)) : Prop := ∀ x0 σ v σ', w x0 σ = some (v, σ') → CallOK Tryz.prog T 22 [tPtr.av x0] σ (tStr.av v) σ'
theorem fn_tell_Rec : T.fn 22 = some Tryz.f22 := by kernel_rfl
def Ok_layout_Layout_Boxes (w : Pt → Int → Int → Heap → Option (((Option Nat) × Sl) × Heap)) : Prop := ∀ x0 x1 x2 σ v σ', w x0 x1 x2 σ = some (v, σ') → CallOK Tryz.prog T 103 [tPtr.av x0, (tInt .i64).av x1, (tInt .i64).av x2] σ ((tPair tMap (tSl 4)).av v) σ'
theorem fn_layout_Layout_Boxes : T.fn 103 = some Tryz.f103 := by kernel_rfl
def Ok_mux_Mux_sides (w : Pt → Heap → Option ((Int × Int) × Heap)) : Prop := ∀ x0 σ v σ', w x0 σ = some (v, σ') → CallOK Tryz.prog T 104 [tPtr.av x0] σ ((tPair (tInt .i64) (tInt .i64)).av v) σ'
theorem fn_mux_Mux_sides : T.fn 104 = some Tryz.f104 := by kernel_rfl
def Ok_mux_Mux_Boxes (w : Pt → Heap → Option (((Option Nat) × Sl) × Heap)) : Prop := ∀ x0 σ v σ', w x0 σ = some (v, σ') → CallOK Tryz.prog T 65 [tPtr.av x0] σ ((tPair tMap (tSl 4)).av v) σ'
theorem fn_mux_Mux_Boxes : T.fn 65 = some Tryz.f65 := by kernel_rfl
def Ok_mux_Mux_Down (w : Pt → Heap → Option (Bool × Heap)) : Prop := ∀ x0 σ v σ', w x0 σ = some (v, σ') → CallOK Tryz.prog T 74 [tPtr.av x0] σ (tBool.av v) σ'
theorem fn_mux_Mux_Down : T.fn 74 = some Tryz.f74 := by kernel_rfl
def Ok_tell_Store (w : Pt → Heap → Option (ByteArray × Heap)) : Prop := ∀ x0 σ v σ', w x0 σ = some (v, σ') → CallOK Tryz.prog T 75 [tPtr.av x0] σ (tStr.av v) σ'
theorem fn_tell_Store : T.fn 75 = some Tryz.f75 := by kernel_rfl
def Ok_mux_Mux_Pane (w : Pt → Int → Heap → Option (Pt × Heap)) : Prop := ∀ x0 x1 σ v σ', w x0 x1 σ = some (v, σ') → CallOK Tryz.prog T 76 [tPtr.av x0, (tInt .i64).av x1] σ (tPtr.av v) σ'
theorem fn_mux_Mux_Pane : T.fn 76 = some Tryz.f76 := by kernel_rfl
def Ok_mux_Mux_Rec (w : Pt → Int → Heap → Option (Pt × Heap)) : Prop := ∀ x0 x1 σ v σ', w x0 x1 σ = some (v, σ') → CallOK Tryz.prog T 77 [tPtr.av x0, (tInt .i64).av x1] σ (tPtr.av v) σ'
theorem fn_mux_Mux_Rec : T.fn 77 = some Tryz.f77 := by kernel_rfl
def Ok_mux_Mux_Clients (w : Pt → Heap → Option (Sl × Heap)) : Prop := ∀ x0 σ v σ', w x0 σ = some (v, σ') → CallOK Tryz.prog T 78 [tPtr.av x0] σ ((tSl 1).av v) σ'
theorem fn_mux_Mux_Clients : T.fn 78 = some Tryz.f78 := by kernel_rfl
def Ok_mux_Mux_Focus (w : Pt → Int → Heap → Option (Int × Heap)) : Prop := ∀ x0 x1 σ v σ', w x0 x1 σ = some (v, σ') → CallOK Tryz.prog T 79 [tPtr.av x0, (tInt .i64).av x1] σ ((tInt .i64).av v) σ'
theorem fn_mux_Mux_Focus : T.fn 79 = some Tryz.f79 := by kernel_rfl
def Ok_mux_Mux_Looks (w : Pt → Int → Int → Heap → Option ((Pt × Int × Bool) × Heap)) : Prop := ∀ x0 x1 x2 σ v σ', w x0 x1 x2 σ = some (v, σ') → CallOK Tryz.prog T 119 [tPtr.av x0, (tInt .i64).av x1, (tInt .i64).av x2] σ ((tTrip tPtr (tInt .i64) tBool).av v) σ'
theorem fn_mux_Mux_Looks : T.fn 119 = some Tryz.f119 := by kernel_rfl
def Ok_tell_pasts (w : Pt → Int → Heap → Option (ByteArray × Heap)) : Prop := ∀ x0 x1 σ v σ', w x0 x1 σ = some (v, σ') → CallOK Tryz.prog T 80 [tPtr.av x0, (tInt .i64).av x1] σ (tStr.av v) σ'
theorem fn_tell_pasts : T.fn 80 = some Tryz.f80 := by kernel_rfl
def Ok_tell_Mux (w : Pt → Heap → Option (ByteArray × Heap)) : Prop := ∀ x0 σ v σ', w x0 σ = some (v, σ') → CallOK Tryz.prog T 52 [tPtr.av x0] σ (tStr.av v) σ'
theorem fn_tell_Mux : T.fn 52 = some Tryz.f52 := by kernel_rfl
def Ok_tell_Run (w : Int → Sl → Heap → Option (ByteArray × Heap)) : Prop := ∀ x0 x1 σ v σ', w x0 x1 σ = some (v, σ') → CallOK Tryz.prog T 35 [(tInt .i64).av x0, (tSl 1).av x1] σ (tStr.av v) σ'
theorem fn_tell_Run : T.fn 35 = some Tryz.f35 := by kernel_rfl
def Ok_law26_fit (w : Heap → Option (Bool × Heap)) : Prop := ∀ σ v σ', w σ = some (v, σ') → CallOK Tryz.prog T 14 [] σ (tBool.av v) σ'
theorem fn_law26_fit : T.fn 14 = some Tryz.f14 := by kernel_rfl
def Ok_law13_Plan_Few (w : law13_Plan → Heap → Option (Bool × Heap)) : Prop := ∀ x0 σ v σ', w x0 σ = some (v, σ') → CallOK Tryz.prog T 20 [t_law13_Plan.av x0] σ (tBool.av v) σ'
theorem fn_law13_Plan_Few : T.fn 20 = some Tryz.f20 := by kernel_rfl
def Ok_ref12_Tame (w : Sl → Heap → Option (Sl × Heap)) : Prop := ∀ x0 σ v σ', w x0 σ = some (v, σ') → CallOK Tryz.prog T 43 [(tSl 5).av x0] σ ((tSl 5).av v) σ'
theorem fn_ref12_Tame : T.fn 43 = some Tryz.f43 := by kernel_rfl
def Ok_law13_Plan_Tame (w : law13_Plan → Heap → Option (Sl × Heap)) : Prop := ∀ x0 σ v σ', w x0 σ = some (v, σ') → CallOK Tryz.prog T 21 [t_law13_Plan.av x0] σ ((tSl 5).av v) σ'
theorem fn_law13_Plan_Tame : T.fn 21 = some Tryz.f21 := by kernel_rfl
def Ok_law26_words (w : Sl → Heap → Option (ByteArray × Heap)) : Prop := ∀ x0 σ v σ', w x0 σ = some (v, σ') → CallOK Tryz.prog T 40 [(tSl 1).av x0] σ (tStr.av v) σ'
theorem fn_law26_words : T.fn 40 = some Tryz.f40 := by kernel_rfl
def Ok_law26_events (w : Sl → Heap → Option (ByteArray × Heap)) : Prop := ∀ x0 σ v σ', w x0 σ = some (v, σ') → CallOK Tryz.prog T 23 [(tSl 5).av x0] σ (tStr.av v) σ'
theorem fn_law26_events : T.fn 23 = some Tryz.f23 := by kernel_rfl
def Ok_law26_TellRecs (w : law13_Plan → Heap → Option (Bool × Heap)) : Prop := ∀ x0 σ v σ', w x0 σ = some (v, σ') → CallOK Tryz.prog T 6 [t_law13_Plan.av x0] σ (tBool.av v) σ'
theorem fn_law26_TellRecs : T.fn 6 = some Tryz.f6 := by kernel_rfl
def Ok_grid_Fit (w : Sl → Int → Heap → Option (Sl × Heap)) : Prop := ∀ x0 x1 σ v σ', w x0 x1 σ = some (v, σ') → CallOK Tryz.prog T 93 [(tSl 6).av x0, (tInt .i64).av x1] σ ((tSl 6).av v) σ'
theorem fn_grid_Fit : T.fn 93 = some Tryz.f93 := by kernel_rfl
def Ok_grid_Grid_Resize (w : Pt → Int → Int → Int → Heap → Option (Sl × Heap)) : Prop := ∀ x0 x1 x2 x3 σ v σ', w x0 x1 x2 x3 σ = some (v, σ') → CallOK Tryz.prog T 56 [tPtr.av x0, (tInt .i64).av x1, (tInt .i64).av x2, (tInt .i64).av x3] σ ((tSl 1).av v) σ'
theorem fn_grid_Grid_Resize : T.fn 56 = some Tryz.f56 := by kernel_rfl
def Ok_slices_Clone (w : Sl → Heap → Option (Sl × Heap)) : Prop := ∀ x0 σ v σ', w x0 σ = some (v, σ') → CallOK Tryz.prog T 94 [(tSl 1).av x0] σ ((tSl 1).av v) σ'
theorem fn_slices_Clone : T.fn 94 = some Tryz.f94 := by kernel_rfl
def Ok_term_Term_keep (w : Pt → Sl → Heap → Option (Unit × Heap)) : Prop := ∀ x0 x1 σ v σ', w x0 x1 σ = some (v, σ') → CallOK Tryz.prog T 57 [tPtr.av x0, (tSl 1).av x1] σ (tVoid.av v) σ'
theorem fn_term_Term_keep : T.fn 57 = some Tryz.f57 := by kernel_rfl
def Ok_term_Term_Resize (w : Pt → Int → Int → Heap → Option (Unit × Heap)) : Prop := ∀ x0 x1 x2 σ v σ', w x0 x1 x2 σ = some (v, σ') → CallOK Tryz.prog T 38 [tPtr.av x0, (tInt .i64).av x1, (tInt .i64).av x2] σ (tVoid.av v) σ'
theorem fn_term_Term_Resize : T.fn 38 = some Tryz.f38 := by kernel_rfl
def Ok_log_Writer_Add (w : Pt → api_Event → Heap → Option (Int × Heap)) : Prop := ∀ x0 x1 σ v σ', w x0 x1 σ = some (v, σ') → CallOK Tryz.prog T 108 [tPtr.av x0, t_api_Event.av x1] σ ((tInt .i64).av v) σ'
theorem fn_log_Writer_Add : T.fn 108 = some Tryz.f108 := by kernel_rfl
def Ok_mux_Mux_note (w : Pt → Pt → api_Event → Heap → Option (Unit × Heap)) : Prop := ∀ x0 x1 x2 σ v σ', w x0 x1 x2 σ = some (v, σ') → CallOK Tryz.prog T 68 [tPtr.av x0, tPtr.av x1, t_api_Event.av x2] σ (tVoid.av v) σ'
theorem fn_mux_Mux_note : T.fn 68 = some Tryz.f68 := by kernel_rfl
def Ok_layout_Layout_Panes_1 (w : Pt → Heap → Option (Unit × Heap)) : Prop := ∀ x0 σ v σ', w x0 σ = some (v, σ') → CallOK Tryz.prog T 72 [tPtr.av x0] σ (tVoid.av v) σ'
theorem fn_layout_Layout_Panes_1 : T.fn 72 = some Tryz.f72 := by kernel_rfl
def Ok_mux_Mux_tick (w : Pt → Int → Heap → Option (Int × Heap)) : Prop := ∀ x0 x1 σ v σ', w x0 x1 σ = some (v, σ') → CallOK Tryz.prog T 112 [tPtr.av x0, (tInt .i64).av x1] σ ((tInt .i64).av v) σ'
theorem fn_mux_Mux_tick : T.fn 112 = some Tryz.f112 := by kernel_rfl
def Ok_file_Store_find (w : Pt → ByteArray → Heap → Option ((Pt × Int) × Heap)) : Prop := ∀ x0 x1 σ v σ', w x0 x1 σ = some (v, σ') → CallOK Tryz.prog T 138 [tPtr.av x0, tStr.av x1] σ ((tPair tPtr (tInt .i64)).av v) σ'
theorem fn_file_Store_find : T.fn 138 = some Tryz.f138 := by kernel_rfl
def Ok_log_Rec_plain (w : Pt → Heap → Option ((Sl × Sl) × Heap)) : Prop := ∀ x0 σ v σ', w x0 σ = some (v, σ') → CallOK Tryz.prog T 146 [tPtr.av x0] σ ((tPair (tSl 1) (tSl 1)).av v) σ'
theorem fn_log_Rec_plain : T.fn 146 = some Tryz.f146 := by kernel_rfl
def Ok_event_Right (w : api_Event → Heap → Option (Bool × Heap)) : Prop := ∀ x0 σ v σ', w x0 σ = some (v, σ') → CallOK Tryz.prog T 152 [t_api_Event.av x0] σ (tBool.av v) σ'
theorem fn_event_Right : T.fn 152 = some Tryz.f152 := by kernel_rfl
def Ok_log_Rec_Last (w : Pt → Heap → Option (Int × Heap)) : Prop := ∀ x0 σ v σ', w x0 σ = some (v, σ') → CallOK Tryz.prog T 153 [tPtr.av x0] σ ((tInt .i64).av v) σ'
theorem fn_log_Rec_Last : T.fn 153 = some Tryz.f153 := by kernel_rfl
def Ok_log_Apply (w : Pt → api_Event → Heap → Option (Unit × Heap)) : Prop := ∀ x0 x1 σ v σ', w x0 x1 σ = some (v, σ') → CallOK Tryz.prog T 154 [tPtr.av x0, t_api_Event.av x1] σ (tVoid.av v) σ'
theorem fn_log_Apply : T.fn 154 = some Tryz.f154 := by kernel_rfl
def Ok_crc_Sum (w : Sl → Heap → Option (Int × Heap)) : Prop := ∀ x0 σ v σ', w x0 σ = some (v, σ') → CallOK Tryz.prog T 264 [(tSl 1).av x0] σ ((tInt .u32).av v) σ'
theorem fn_crc_Sum : T.fn 264 = some Tryz.f264 := by kernel_rfl
def Ok_crc_Frame (w : Sl → Sl → Heap → Option (Sl × Heap)) : Prop := ∀ x0 x1 σ v σ', w x0 x1 σ = some (v, σ') → CallOK Tryz.prog T 219 [(tSl 1).av x0, (tSl 1).av x1] σ ((tSl 1).av v) σ'
theorem fn_crc_Frame : T.fn 219 = some Tryz.f219 := by kernel_rfl
def Ok_log_frame (w : Sl → Int → Sl → Heap → Option (Sl × Heap)) : Prop := ∀ x0 x1 x2 σ v σ', w x0 x1 x2 σ = some (v, σ') → CallOK Tryz.prog T 155 [(tSl 1).av x0, (tInt .u8).av x1, (tSl 1).av x2] σ ((tSl 1).av v) σ'
theorem fn_log_frame : T.fn 155 = some Tryz.f155 := by kernel_rfl
def Ok_event_Put (w : Sl → Int → api_Event → Heap → Option (Sl × Heap)) : Prop := ∀ x0 x1 x2 σ v σ', w x0 x1 x2 σ = some (v, σ') → CallOK Tryz.prog T 156 [(tSl 1).av x0, (tInt .i64).av x1, t_api_Event.av x2] σ ((tSl 1).av v) σ'
theorem fn_event_Put : T.fn 156 = some Tryz.f156 := by kernel_rfl
def Ok_internal_strconv_small (w : Int → Heap → Option (ByteArray × Heap)) : Prop := ∀ x0 σ v σ', w x0 σ = some (v, σ') → CallOK Tryz.prog T 195 [(tInt .i64).av x0] σ (tStr.av v) σ'
theorem fn_internal_strconv_small : T.fn 195 = some Tryz.f195 := by kernel_rfl
structure C_vary_Reader_Num where
  vary_Take : Sl → Heap → Option ((Int × Int) × Heap)
noncomputable def O_vary_Reader_Num (w : C_vary_Reader_Num) : Known := (known0).and 51 (g1 (tSl 1) (tPair (tInt .u64) (tInt .i64)) w.vary_Take)
theorem K_vary_Reader_Num (w : C_vary_Reader_Num) (h_vary_Take : Ok_vary_Take w.vary_Take) : KnownOK Tryz.prog T (O_vary_Reader_Num w) :=
  known_ok ok (known0_ok) fn_vary_Take (by kernel_rfl) (g1_ok h_vary_Take)
structure C_vary_Reader_Text where
  vary_Reader_Num : Pt → Int → Heap → Option (Int × Heap)
noncomputable def O_vary_Reader_Text (w : C_vary_Reader_Text) : Known := (known0).and 32 (g2 tPtr (tInt .i64) (tInt .i64) w.vary_Reader_Num)
theorem K_vary_Reader_Text (w : C_vary_Reader_Text) (h_vary_Reader_Num : Ok_vary_Reader_Num w.vary_Reader_Num) : KnownOK Tryz.prog T (O_vary_Reader_Text w) :=
  known_ok ok (known0_ok) fn_vary_Reader_Num (by kernel_rfl) (g2_ok h_vary_Reader_Num)
structure C_script_take where
  vary_Reader_Num : Pt → Int → Heap → Option (Int × Heap)
  vary_Reader_Text : Pt → Int → Heap → Option (ByteArray × Heap)
  vary_Reader_Good : Pt → Heap → Option (Bool × Heap)
noncomputable def O_script_take (w : C_script_take) : Known := (((known0).and 32 (g2 tPtr (tInt .i64) (tInt .i64) w.vary_Reader_Num)).and 33 (g2 tPtr (tInt .i64) tStr w.vary_Reader_Text)).and 34 (g1 tPtr tBool w.vary_Reader_Good)
theorem K_script_take (w : C_script_take) (h_vary_Reader_Num : Ok_vary_Reader_Num w.vary_Reader_Num) (h_vary_Reader_Text : Ok_vary_Reader_Text w.vary_Reader_Text) (h_vary_Reader_Good : Ok_vary_Reader_Good w.vary_Reader_Good) : KnownOK Tryz.prog T (O_script_take w) :=
  known_ok ok (known_ok ok (known_ok ok (known0_ok) fn_vary_Reader_Num (by kernel_rfl) (g2_ok h_vary_Reader_Num)) fn_vary_Reader_Text (by kernel_rfl) (g2_ok h_vary_Reader_Text)) fn_vary_Reader_Good (by kernel_rfl) (g1_ok h_vary_Reader_Good)
structure C_script_Decode where
  vary_Of : Sl → Heap → Option (Pt × Heap)
  vary_Reader_Done : Pt → Heap → Option (Bool × Heap)
  script_take : Pt → Heap → Option ((api_Op × Bool) × Heap)
noncomputable def O_script_Decode (w : C_script_Decode) : Known := (((known0).and 12 (g1 (tSl 1) tPtr w.vary_Of)).and 30 (g1 tPtr tBool w.vary_Reader_Done)).and 31 (g1 tPtr (tPair t_api_Op tBool) w.script_take)
theorem K_script_Decode (w : C_script_Decode) (h_vary_Of : Ok_vary_Of w.vary_Of) (h_vary_Reader_Done : Ok_vary_Reader_Done w.vary_Reader_Done) (h_script_take : Ok_script_take w.script_take) : KnownOK Tryz.prog T (O_script_Decode w) :=
  known_ok ok (known_ok ok (known_ok ok (known0_ok) fn_vary_Of (by kernel_rfl) (g1_ok h_vary_Of)) fn_vary_Reader_Done (by kernel_rfl) (g1_ok h_vary_Reader_Done)) fn_script_take (by kernel_rfl) (g1_ok h_script_take)
structure C_math_bits_Mul where
  math_bits_Mul64 : Int → Int → Heap → Option ((Int × Int) × Heap)
noncomputable def O_math_bits_Mul (w : C_math_bits_Mul) : Known := (known0).and 243 (g2 (tInt .u64) (tInt .u64) (tPair (tInt .u64) (tInt .u64)) w.math_bits_Mul64)
theorem K_math_bits_Mul (w : C_math_bits_Mul) (h_math_bits_Mul64 : Ok_math_bits_Mul64 w.math_bits_Mul64) : KnownOK Tryz.prog T (O_math_bits_Mul w) :=
  known_ok ok (known0_ok) fn_math_bits_Mul64 (by kernel_rfl) (g2_ok h_math_bits_Mul64)
structure C_slices_Repeat where
  math_bits_Mul : Int → Int → Heap → Option ((Int × Int) × Heap)
noncomputable def O_slices_Repeat (w : C_slices_Repeat) : Known := (known0).and 178 (g2 (tInt .u64) (tInt .u64) (tPair (tInt .u64) (tInt .u64)) w.math_bits_Mul)
theorem K_slices_Repeat (w : C_slices_Repeat) (h_math_bits_Mul : Ok_math_bits_Mul w.math_bits_Mul) : KnownOK Tryz.prog T (O_slices_Repeat w) :=
  known_ok ok (known0_ok) fn_math_bits_Mul (by kernel_rfl) (g2_ok h_math_bits_Mul)
structure C_grid_blank where
  slices_Repeat : Sl → Int → Heap → Option (Sl × Heap)
  cell_Blank : api_Style → Heap → Option (api_Cell × Heap)
noncomputable def O_grid_blank (w : C_grid_blank) : Known := ((known0).and 120 (g2 (tSl 6) (tInt .i64) (tSl 6) w.slices_Repeat)).and 121 (g1 t_api_Style t_api_Cell w.cell_Blank)
theorem K_grid_blank (w : C_grid_blank) (h_slices_Repeat : Ok_slices_Repeat w.slices_Repeat) (h_cell_Blank : Ok_cell_Blank w.cell_Blank) : KnownOK Tryz.prog T (O_grid_blank w) :=
  known_ok ok (known_ok ok (known0_ok) fn_slices_Repeat (by kernel_rfl) (g2_ok h_slices_Repeat)) fn_cell_Blank (by kernel_rfl) (g1_ok h_cell_Blank)
structure C_grid_New where
  grid_bring : Int → Heap → Option (Int × Heap)
  grid_blank : Int → api_Style → Heap → Option (Sl × Heap)
noncomputable def O_grid_New (w : C_grid_New) : Known := ((known0).and 81 (g1 (tInt .i64) (tInt .i64) w.grid_bring)).and 82 (g2 (tInt .i64) t_api_Style (tSl 6) w.grid_blank)
theorem K_grid_New (w : C_grid_New) (h_grid_bring : Ok_grid_bring w.grid_bring) (h_grid_blank : Ok_grid_blank w.grid_blank) : KnownOK Tryz.prog T (O_grid_New w) :=
  known_ok ok (known_ok ok (known0_ok) fn_grid_bring (by kernel_rfl) (g1_ok h_grid_bring)) fn_grid_blank (by kernel_rfl) (g2_ok h_grid_blank)
structure C_term_Term_start where
  grid_New : Int → Int → Heap → Option (Pt × Heap)
noncomputable def O_term_Term_start (w : C_term_Term_start) : Known := (known0).and 53 (g2 (tInt .i64) (tInt .i64) tPtr w.grid_New)
theorem K_term_Term_start (w : C_term_Term_start) (h_grid_New : Ok_grid_New w.grid_New) : KnownOK Tryz.prog T (O_term_Term_start w) :=
  known_ok ok (known0_ok) fn_grid_New (by kernel_rfl) (g2_ok h_grid_New)
structure C_term_New where
  term_Term_start : Pt → Int → Int → Heap → Option (Unit × Heap)
noncomputable def O_term_New (w : C_term_New) : Known := (known0).and 36 (g3 tPtr (tInt .i64) (tInt .i64) tVoid w.term_Term_start)
theorem K_term_New (w : C_term_New) (h_term_Term_start : Ok_term_Term_start w.term_Term_start) : KnownOK Tryz.prog T (O_term_New w) :=
  known_ok ok (known0_ok) fn_term_Term_start (by kernel_rfl) (g3_ok h_term_Term_start)
structure C_vary_PutText where
  vary_Put : Sl → Sl → Heap → Option (Sl × Heap)
noncomputable def O_vary_PutText (w : C_vary_PutText) : Known := (known0).and 28 (g2 (tSl 1) (tSl 1) (tSl 1) w.vary_Put)
theorem K_vary_PutText (w : C_vary_PutText) (h_vary_Put : Ok_vary_Put w.vary_Put) : KnownOK Tryz.prog T (O_vary_PutText w) :=
  known_ok ok (known0_ok) fn_vary_Put (by kernel_rfl) (g2_ok h_vary_Put)
structure C_cell_PutStyle where
  vary_Put : Sl → Sl → Heap → Option (Sl × Heap)
  cell_bits : api_Style → Heap → Option (Int × Heap)
noncomputable def O_cell_PutStyle (w : C_cell_PutStyle) : Known := ((known0).and 28 (g2 (tSl 1) (tSl 1) (tSl 1) w.vary_Put)).and 296 (g1 t_api_Style (tInt .u64) w.cell_bits)
theorem K_cell_PutStyle (w : C_cell_PutStyle) (h_vary_Put : Ok_vary_Put w.vary_Put) (h_cell_bits : Ok_cell_bits w.cell_bits) : KnownOK Tryz.prog T (O_cell_PutStyle w) :=
  known_ok ok (known_ok ok (known0_ok) fn_vary_Put (by kernel_rfl) (g2_ok h_vary_Put)) fn_cell_bits (by kernel_rfl) (g1_ok h_cell_bits)
structure C_state_cursor where
  vary_Put : Sl → Sl → Heap → Option (Sl × Heap)
  state_flags : Sl → Heap → Option (Int × Heap)
  cell_PutStyle : Sl → api_Style → Heap → Option (Sl × Heap)
noncomputable def O_state_cursor (w : C_state_cursor) : Known := (((known0).and 28 (g2 (tSl 1) (tSl 1) (tSl 1) w.vary_Put)).and 199 (g1 (tSl 1) (tInt .u64) w.state_flags)).and 257 (g2 (tSl 1) t_api_Style (tSl 1) w.cell_PutStyle)
theorem K_state_cursor (w : C_state_cursor) (h_vary_Put : Ok_vary_Put w.vary_Put) (h_state_flags : Ok_state_flags w.state_flags) (h_cell_PutStyle : Ok_cell_PutStyle w.cell_PutStyle) : KnownOK Tryz.prog T (O_state_cursor w) :=
  known_ok ok (known_ok ok (known_ok ok (known0_ok) fn_vary_Put (by kernel_rfl) (g2_ok h_vary_Put)) fn_state_flags (by kernel_rfl) (g1_ok h_state_flags)) fn_cell_PutStyle (by kernel_rfl) (g2_ok h_cell_PutStyle)
structure C_cell_PutLine where
  vary_Put : Sl → Sl → Heap → Option (Sl × Heap)
  cell_PutStyle : Sl → api_Style → Heap → Option (Sl × Heap)
noncomputable def O_cell_PutLine (w : C_cell_PutLine) : Known := ((known0).and 28 (g2 (tSl 1) (tSl 1) (tSl 1) w.vary_Put)).and 257 (g2 (tSl 1) t_api_Style (tSl 1) w.cell_PutStyle)
theorem K_cell_PutLine (w : C_cell_PutLine) (h_vary_Put : Ok_vary_Put w.vary_Put) (h_cell_PutStyle : Ok_cell_PutStyle w.cell_PutStyle) : KnownOK Tryz.prog T (O_cell_PutLine w) :=
  known_ok ok (known_ok ok (known0_ok) fn_vary_Put (by kernel_rfl) (g2_ok h_vary_Put)) fn_cell_PutStyle (by kernel_rfl) (g2_ok h_cell_PutStyle)
structure C_state_parser where
  vary_Put : Sl → Sl → Heap → Option (Sl × Heap)
  vary_PutText : Sl → ByteArray → Heap → Option (Sl × Heap)
noncomputable def O_state_parser (w : C_state_parser) : Known := ((known0).and 28 (g2 (tSl 1) (tSl 1) (tSl 1) w.vary_Put)).and 29 (g2 (tSl 1) tStr (tSl 1) w.vary_PutText)
theorem K_state_parser (w : C_state_parser) (h_vary_Put : Ok_vary_Put w.vary_Put) (h_vary_PutText : Ok_vary_PutText w.vary_PutText) : KnownOK Tryz.prog T (O_state_parser w) :=
  known_ok ok (known_ok ok (known0_ok) fn_vary_Put (by kernel_rfl) (g2_ok h_vary_Put)) fn_vary_PutText (by kernel_rfl) (g2_ok h_vary_PutText)
structure C_state_Encode where
  vary_Put : Sl → Sl → Heap → Option (Sl × Heap)
  vary_PutText : Sl → ByteArray → Heap → Option (Sl × Heap)
  state_flags : Sl → Heap → Option (Int × Heap)
  state_cursor : Sl → api_Cursor → Heap → Option (Sl × Heap)
  cell_PutLine : Sl → Sl → Heap → Option (Sl × Heap)
  state_parser : Sl → vt_Parser → Heap → Option (Sl × Heap)
noncomputable def O_state_Encode (w : C_state_Encode) : Known := ((((((known0).and 28 (g2 (tSl 1) (tSl 1) (tSl 1) w.vary_Put)).and 29 (g2 (tSl 1) tStr (tSl 1) w.vary_PutText)).and 199 (g1 (tSl 1) (tInt .u64) w.state_flags)).and 200 (g2 (tSl 1) t_api_Cursor (tSl 1) w.state_cursor)).and 201 (g2 (tSl 1) (tSl 6) (tSl 1) w.cell_PutLine)).and 202 (g2 (tSl 1) t_vt_Parser (tSl 1) w.state_parser)
theorem K_state_Encode (w : C_state_Encode) (h_vary_Put : Ok_vary_Put w.vary_Put) (h_vary_PutText : Ok_vary_PutText w.vary_PutText) (h_state_flags : Ok_state_flags w.state_flags) (h_state_cursor : Ok_state_cursor w.state_cursor) (h_cell_PutLine : Ok_cell_PutLine w.cell_PutLine) (h_state_parser : Ok_state_parser w.state_parser) : KnownOK Tryz.prog T (O_state_Encode w) :=
  known_ok ok (known_ok ok (known_ok ok (known_ok ok (known_ok ok (known_ok ok (known0_ok) fn_vary_Put (by kernel_rfl) (g2_ok h_vary_Put)) fn_vary_PutText (by kernel_rfl) (g2_ok h_vary_PutText)) fn_state_flags (by kernel_rfl) (g1_ok h_state_flags)) fn_state_cursor (by kernel_rfl) (g2_ok h_state_cursor)) fn_cell_PutLine (by kernel_rfl) (g2_ok h_cell_PutLine)) fn_state_parser (by kernel_rfl) (g2_ok h_state_parser)
structure C_log_New where
  state_Encode : Pt → Heap → Option (Sl × Heap)
noncomputable def O_log_New (w : C_log_New) : Known := (known0).and 140 (g1 tPtr (tSl 1) w.state_Encode)
theorem K_log_New (w : C_log_New) (h_state_Encode : Ok_state_Encode w.state_Encode) : KnownOK Tryz.prog T (O_log_New w) :=
  known_ok ok (known0_ok) fn_state_Encode (by kernel_rfl) (g1_ok h_state_Encode)
structure C_grid_Grid_Copy where
  slices_Clone_ : Sl → Heap → Option (Sl × Heap)
noncomputable def O_grid_Grid_Copy (w : C_grid_Grid_Copy) : Known := (known0).and 135 (g1 (tSl 6) (tSl 6) w.slices_Clone_)
theorem K_grid_Grid_Copy (w : C_grid_Grid_Copy) (h_slices_Clone_ : Ok_slices_Clone_ w.slices_Clone_) : KnownOK Tryz.prog T (O_grid_Grid_Copy w) :=
  known_ok ok (known0_ok) fn_slices_Clone_ (by kernel_rfl) (g1_ok h_slices_Clone_)
structure C_state_Copy where
  slices_Clone_ : Sl → Heap → Option (Sl × Heap)
  grid_Grid_Copy : Pt → Heap → Option (Pt × Heap)
  slices_Clone__ : Sl → Heap → Option (Sl × Heap)
noncomputable def O_state_Copy (w : C_state_Copy) : Known := (((known0).and 135 (g1 (tSl 6) (tSl 6) w.slices_Clone_)).and 141 (g1 tPtr tPtr w.grid_Grid_Copy)).and 142 (g1 (tSl 1) (tSl 1) w.slices_Clone__)
theorem K_state_Copy (w : C_state_Copy) (h_slices_Clone_ : Ok_slices_Clone_ w.slices_Clone_) (h_grid_Grid_Copy : Ok_grid_Grid_Copy w.grid_Grid_Copy) (h_slices_Clone__ : Ok_slices_Clone__ w.slices_Clone__) : KnownOK Tryz.prog T (O_state_Copy w) :=
  known_ok ok (known_ok ok (known_ok ok (known0_ok) fn_slices_Clone_ (by kernel_rfl) (g1_ok h_slices_Clone_)) fn_grid_Grid_Copy (by kernel_rfl) (g1_ok h_grid_Grid_Copy)) fn_slices_Clone__ (by kernel_rfl) (g1_ok h_slices_Clone__)
structure C_file_Store_Append where
  file_named : ByteArray → Heap → Option (Bool × Heap)
  file_Store_Used : Pt → Heap → Option (Int × Heap)
  file_Store_change : Pt → Heap → Option (Int × Heap)
noncomputable def O_file_Store_Append (w : C_file_Store_Append) : Known := (((known0).and 143 (g1 tStr tBool w.file_named)).and 144 (g1 tPtr (tInt .i64) w.file_Store_Used)).and 145 (g1 tPtr (tInt .i64) w.file_Store_change)
theorem K_file_Store_Append (w : C_file_Store_Append) (h_file_named : Ok_file_named w.file_named) (h_file_Store_Used : Ok_file_Store_Used w.file_Store_Used) (h_file_Store_change : Ok_file_Store_change w.file_Store_change) : KnownOK Tryz.prog T (O_file_Store_Append w) :=
  known_ok ok (known_ok ok (known_ok ok (known0_ok) fn_file_named (by kernel_rfl) (g1_ok h_file_named)) fn_file_Store_Used (by kernel_rfl) (g1_ok h_file_Store_Used)) fn_file_Store_change (by kernel_rfl) (g1_ok h_file_Store_change)
structure C_log_Create where
  file_Store_Read : Pt → ByteArray → Heap → Option ((Sl × Int) × Heap)
  log_New : Pt → Heap → Option (Pt × Heap)
  state_Copy : Pt → Heap → Option (Pt × Heap)
  file_Store_Append : Pt → ByteArray → Sl → Heap → Option (Int × Heap)
  log_Rec_Encode : Pt → Bool → Heap → Option (Sl × Heap)
noncomputable def O_log_Create (w : C_log_Create) : Known := (((((known0).and 98 (g2 tPtr tStr (tPair (tSl 1) (tInt .i64)) w.file_Store_Read)).and 99 (g1 tPtr tPtr w.log_New)).and 100 (g1 tPtr tPtr w.state_Copy)).and 101 (g3 tPtr tStr (tSl 1) (tInt .i64) w.file_Store_Append)).and 102 (g2 tPtr tBool (tSl 1) w.log_Rec_Encode)
theorem K_log_Create (w : C_log_Create) (h_file_Store_Read : Ok_file_Store_Read w.file_Store_Read) (h_log_New : Ok_log_New w.log_New) (h_state_Copy : Ok_state_Copy w.state_Copy) (h_file_Store_Append : Ok_file_Store_Append w.file_Store_Append) (h_log_Rec_Encode : Ok_log_Rec_Encode w.log_Rec_Encode) : KnownOK Tryz.prog T (O_log_Create w) :=
  known_ok ok (known_ok ok (known_ok ok (known_ok ok (known_ok ok (known0_ok) fn_file_Store_Read (by kernel_rfl) (g2_ok h_file_Store_Read)) fn_log_New (by kernel_rfl) (g1_ok h_log_New)) fn_state_Copy (by kernel_rfl) (g1_ok h_state_Copy)) fn_file_Store_Append (by kernel_rfl) (g3_ok h_file_Store_Append)) fn_log_Rec_Encode (by kernel_rfl) (g2_ok h_log_Rec_Encode)
structure C_internal_strconv_Itoa where
  internal_strconv_FormatInt : Int → Int → Heap → Option (ByteArray × Heap)
noncomputable def O_internal_strconv_Itoa (w : C_internal_strconv_Itoa) : Known := (known0).and 137 (g2 (tInt .i64) (tInt .i64) tStr w.internal_strconv_FormatInt)
theorem K_internal_strconv_Itoa (w : C_internal_strconv_Itoa) (h_internal_strconv_FormatInt : Ok_internal_strconv_FormatInt w.internal_strconv_FormatInt) : KnownOK Tryz.prog T (O_internal_strconv_Itoa w) :=
  known_ok ok (known0_ok) fn_internal_strconv_FormatInt (by kernel_rfl) (g2_ok h_internal_strconv_FormatInt)
structure C_strconv_Itoa where
  internal_strconv_Itoa : Int → Heap → Option (ByteArray × Heap)
noncomputable def O_strconv_Itoa (w : C_strconv_Itoa) : Known := (known0).and 96 (g1 (tInt .i64) tStr w.internal_strconv_Itoa)
theorem K_strconv_Itoa (w : C_strconv_Itoa) (h_internal_strconv_Itoa : Ok_internal_strconv_Itoa w.internal_strconv_Itoa) : KnownOK Tryz.prog T (O_strconv_Itoa w) :=
  known_ok ok (known0_ok) fn_internal_strconv_Itoa (by kernel_rfl) (g1_ok h_internal_strconv_Itoa)
structure C_mux_Name where
  strconv_Itoa : Int → Heap → Option (ByteArray × Heap)
noncomputable def O_mux_Name (w : C_mux_Name) : Known := (known0).and 60 (g1 (tInt .i64) tStr w.strconv_Itoa)
theorem K_mux_Name (w : C_mux_Name) (h_strconv_Itoa : Ok_strconv_Itoa w.strconv_Itoa) : KnownOK Tryz.prog T (O_mux_Name w) :=
  known_ok ok (known0_ok) fn_strconv_Itoa (by kernel_rfl) (g1_ok h_strconv_Itoa)
structure C_mux_Mux_open where
  term_New : Int → Int → Heap → Option (Pt × Heap)
  log_Create : Pt → ByteArray → Pt → Heap → Option ((Pt × Int) × Heap)
  mux_Name : Int → Heap → Option (ByteArray × Heap)
noncomputable def O_mux_Mux_open (w : C_mux_Mux_open) : Known := (((known0).and 16 (g2 (tInt .i64) (tInt .i64) tPtr w.term_New)).and 63 (g3 tPtr tStr tPtr (tPair tPtr (tInt .i64)) w.log_Create)).and 64 (g1 (tInt .i64) tStr w.mux_Name)
theorem K_mux_Mux_open (w : C_mux_Mux_open) (h_term_New : Ok_term_New w.term_New) (h_log_Create : Ok_log_Create w.log_Create) (h_mux_Name : Ok_mux_Name w.mux_Name) : KnownOK Tryz.prog T (O_mux_Mux_open w) :=
  known_ok ok (known_ok ok (known_ok ok (known0_ok) fn_term_New (by kernel_rfl) (g2_ok h_term_New)) fn_log_Create (by kernel_rfl) (g3_ok h_log_Create)) fn_mux_Name (by kernel_rfl) (g1_ok h_mux_Name)
structure C_mux_New where
  file_New : Int → Heap → Option (Pt × Heap)
  layout_New : Int → Heap → Option (Pt × Heap)
  command_Standard : Heap → Option (Sl × Heap)
  mux_Mux_open : Pt → Int → Heap → Option (Unit × Heap)
  mux_Mux_fit : Pt → Heap → Option (Unit × Heap)
noncomputable def O_mux_New (w : C_mux_New) : Known := (((((known0).and 44 (g1 (tInt .i64) tPtr w.file_New)).and 45 (g1 (tInt .i64) tPtr w.layout_New)).and 46 (g0  (tSl 2) w.command_Standard)).and 47 (g2 tPtr (tInt .i64) tVoid w.mux_Mux_open)).and 48 (g1 tPtr tVoid w.mux_Mux_fit)
theorem K_mux_New (w : C_mux_New) (h_file_New : Ok_file_New w.file_New) (h_layout_New : Ok_layout_New w.layout_New) (h_command_Standard : Ok_command_Standard w.command_Standard) (h_mux_Mux_open : Ok_mux_Mux_open w.mux_Mux_open) (h_mux_Mux_fit : Ok_mux_Mux_fit w.mux_Mux_fit) : KnownOK Tryz.prog T (O_mux_New w) :=
  known_ok ok (known_ok ok (known_ok ok (known_ok ok (known_ok ok (known0_ok) fn_file_New (by kernel_rfl) (g1_ok h_file_New)) fn_layout_New (by kernel_rfl) (g1_ok h_layout_New)) fn_command_Standard (by kernel_rfl) (g0_ok h_command_Standard)) fn_mux_Mux_open (by kernel_rfl) (g2_ok h_mux_Mux_open)) fn_mux_Mux_fit (by kernel_rfl) (g1_ok h_mux_Mux_fit)
structure C_mux_Mux_settle where
  mux_Mux_fit : Pt → Heap → Option (Unit × Heap)
  mux_Mux_show : Pt → Heap → Option (Unit × Heap)
noncomputable def O_mux_Mux_settle (w : C_mux_Mux_settle) : Known := ((known0).and 48 (g1 tPtr tVoid w.mux_Mux_fit)).and 109 (g1 tPtr tVoid w.mux_Mux_show)
theorem K_mux_Mux_settle (w : C_mux_Mux_settle) (h_mux_Mux_fit : Ok_mux_Mux_fit w.mux_Mux_fit) (h_mux_Mux_show : Ok_mux_Mux_show w.mux_Mux_show) : KnownOK Tryz.prog T (O_mux_Mux_settle w) :=
  known_ok ok (known_ok ok (known0_ok) fn_mux_Mux_fit (by kernel_rfl) (g1_ok h_mux_Mux_fit)) fn_mux_Mux_show (by kernel_rfl) (g1_ok h_mux_Mux_show)
structure C_mux_Mux_Do where
  mux_Mux_settle : Pt → Int → Heap → Option (Int × Heap)
  mux_Mux_op : Pt → api_Op → Heap → Option (Int × Heap)
noncomputable def O_mux_Mux_Do (w : C_mux_Mux_Do) : Known := ((known0).and 69 (g2 tPtr (tInt .i64) (tInt .i64) w.mux_Mux_settle)).and 70 (g2 tPtr t_api_Op (tInt .i64) w.mux_Mux_op)
theorem K_mux_Mux_Do (w : C_mux_Mux_Do) (h_mux_Mux_settle : Ok_mux_Mux_settle w.mux_Mux_settle) (h_mux_Mux_op : Ok_mux_Mux_op w.mux_Mux_op) : KnownOK Tryz.prog T (O_mux_Mux_Do w) :=
  known_ok ok (known_ok ok (known0_ok) fn_mux_Mux_settle (by kernel_rfl) (g2_ok h_mux_Mux_settle)) fn_mux_Mux_op (by kernel_rfl) (g2_ok h_mux_Mux_op)
structure C_script_Run where
  mux_Mux_Do : Pt → api_Op → Heap → Option (Int × Heap)
noncomputable def O_script_Run (w : C_script_Run) : Known := (known0).and 49 (g2 tPtr t_api_Op (tInt .i64) w.mux_Mux_Do)
theorem K_script_Run (w : C_script_Run) (h_mux_Mux_Do : Ok_mux_Mux_Do w.mux_Mux_Do) : KnownOK Tryz.prog T (O_script_Run w) :=
  known_ok ok (known0_ok) fn_mux_Mux_Do (by kernel_rfl) (g2_ok h_mux_Mux_Do)
structure C_mux_Mux_Panes where
  layout_Layout_Panes : Pt → Heap → Option (Sl × Heap)
noncomputable def O_mux_Mux_Panes (w : C_mux_Mux_Panes) : Known := (known0).and 50 (g1 tPtr (tSl 1) w.layout_Layout_Panes)
theorem K_mux_Mux_Panes (w : C_mux_Mux_Panes) (h_layout_Layout_Panes : Ok_layout_Layout_Panes w.layout_Layout_Panes) : KnownOK Tryz.prog T (O_mux_Mux_Panes w) :=
  known_ok ok (known0_ok) fn_layout_Layout_Panes (by kernel_rfl) (g1_ok h_layout_Layout_Panes)
structure C_law25_fit where
  script_Decode : Sl → Heap → Option (Sl × Heap)
  mux_New : Int → Heap → Option (Pt × Heap)
  script_Run : Pt → Sl → Heap → Option (Int × Heap)
  mux_Mux_Now : Pt → Heap → Option (Int × Heap)
  mux_Mux_Panes : Pt → Heap → Option (Sl × Heap)
noncomputable def O_law25_fit (w : C_law25_fit) : Known := (((((known0).and 11 (g1 (tSl 1) (tSl 7) w.script_Decode)).and 24 (g1 (tInt .i64) tPtr w.mux_New)).and 25 (g2 tPtr (tSl 7) (tInt .i64) w.script_Run)).and 26 (g1 tPtr (tInt .i64) w.mux_Mux_Now)).and 27 (g1 tPtr (tSl 1) w.mux_Mux_Panes)
theorem K_law25_fit (w : C_law25_fit) (h_script_Decode : Ok_script_Decode w.script_Decode) (h_mux_New : Ok_mux_New w.mux_New) (h_script_Run : Ok_script_Run w.script_Run) (h_mux_Mux_Now : Ok_mux_Mux_Now w.mux_Mux_Now) (h_mux_Mux_Panes : Ok_mux_Mux_Panes w.mux_Mux_Panes) : KnownOK Tryz.prog T (O_law25_fit w) :=
  known_ok ok (known_ok ok (known_ok ok (known_ok ok (known_ok ok (known0_ok) fn_script_Decode (by kernel_rfl) (g1_ok h_script_Decode)) fn_mux_New (by kernel_rfl) (g1_ok h_mux_New)) fn_script_Run (by kernel_rfl) (g2_ok h_script_Run)) fn_mux_Mux_Now (by kernel_rfl) (g1_ok h_mux_Mux_Now)) fn_mux_Mux_Panes (by kernel_rfl) (g1_ok h_mux_Mux_Panes)
structure C_script_Encode where
  vary_Put : Sl → Sl → Heap → Option (Sl × Heap)
  vary_PutText : Sl → ByteArray → Heap → Option (Sl × Heap)
noncomputable def O_script_Encode (w : C_script_Encode) : Known := ((known0).and 28 (g2 (tSl 1) (tSl 1) (tSl 1) w.vary_Put)).and 29 (g2 (tSl 1) tStr (tSl 1) w.vary_PutText)
theorem K_script_Encode (w : C_script_Encode) (h_vary_Put : Ok_vary_Put w.vary_Put) (h_vary_PutText : Ok_vary_PutText w.vary_PutText) : KnownOK Tryz.prog T (O_script_Encode w) :=
  known_ok ok (known_ok ok (known0_ok) fn_vary_Put (by kernel_rfl) (g2_ok h_vary_Put)) fn_vary_PutText (by kernel_rfl) (g2_ok h_vary_PutText)
structure C_law25_ScriptBack where
  law25_fit : Heap → Option (Bool × Heap)
  law25_Tame : Sl → Heap → Option (Sl × Heap)
  script_Encode : Sl → Heap → Option (Sl × Heap)
  law25_same : Sl → Sl → Heap → Option (Bool × Heap)
  script_Decode : Sl → Heap → Option (Sl × Heap)
noncomputable def O_law25_ScriptBack (w : C_law25_ScriptBack) : Known := (((((known0).and 7 (g0  tBool w.law25_fit)).and 8 (g1 (tSl 7) (tSl 7) w.law25_Tame)).and 9 (g1 (tSl 7) (tSl 1) w.script_Encode)).and 10 (g2 (tSl 7) (tSl 7) tBool w.law25_same)).and 11 (g1 (tSl 1) (tSl 7) w.script_Decode)
theorem K_law25_ScriptBack (w : C_law25_ScriptBack) (h_law25_fit : Ok_law25_fit w.law25_fit) (h_law25_Tame : Ok_law25_Tame w.law25_Tame) (h_script_Encode : Ok_script_Encode w.script_Encode) (h_law25_same : Ok_law25_same w.law25_same) (h_script_Decode : Ok_script_Decode w.script_Decode) : KnownOK Tryz.prog T (O_law25_ScriptBack w) :=
  known_ok ok (known_ok ok (known_ok ok (known_ok ok (known_ok ok (known0_ok) fn_law25_fit (by kernel_rfl) (g0_ok h_law25_fit)) fn_law25_Tame (by kernel_rfl) (g1_ok h_law25_Tame)) fn_script_Encode (by kernel_rfl) (g1_ok h_script_Encode)) fn_law25_same (by kernel_rfl) (g2_ok h_law25_same)) fn_script_Decode (by kernel_rfl) (g1_ok h_script_Decode)
structure C_law25_take where
  vary_Reader_Num : Pt → Int → Heap → Option (Int × Heap)
  vary_Reader_Text : Pt → Int → Heap → Option (ByteArray × Heap)
  vary_Reader_Good : Pt → Heap → Option (Bool × Heap)
noncomputable def O_law25_take (w : C_law25_take) : Known := (((known0).and 32 (g2 tPtr (tInt .i64) (tInt .i64) w.vary_Reader_Num)).and 33 (g2 tPtr (tInt .i64) tStr w.vary_Reader_Text)).and 34 (g1 tPtr tBool w.vary_Reader_Good)
theorem K_law25_take (w : C_law25_take) (h_vary_Reader_Num : Ok_vary_Reader_Num w.vary_Reader_Num) (h_vary_Reader_Text : Ok_vary_Reader_Text w.vary_Reader_Text) (h_vary_Reader_Good : Ok_vary_Reader_Good w.vary_Reader_Good) : KnownOK Tryz.prog T (O_law25_take w) :=
  known_ok ok (known_ok ok (known_ok ok (known0_ok) fn_vary_Reader_Num (by kernel_rfl) (g2_ok h_vary_Reader_Num)) fn_vary_Reader_Text (by kernel_rfl) (g2_ok h_vary_Reader_Text)) fn_vary_Reader_Good (by kernel_rfl) (g1_ok h_vary_Reader_Good)
structure C_law25_ScriptAny where
  law25_fit : Heap → Option (Bool × Heap)
  script_Encode : Sl → Heap → Option (Sl × Heap)
  script_Decode : Sl → Heap → Option (Sl × Heap)
  vary_Of : Sl → Heap → Option (Pt × Heap)
  law25_take : Pt → Heap → Option ((api_Op × Bool) × Heap)
noncomputable def O_law25_ScriptAny (w : C_law25_ScriptAny) : Known := (((((known0).and 7 (g0  tBool w.law25_fit)).and 9 (g1 (tSl 7) (tSl 1) w.script_Encode)).and 11 (g1 (tSl 1) (tSl 7) w.script_Decode)).and 12 (g1 (tSl 1) tPtr w.vary_Of)).and 13 (g1 tPtr (tPair t_api_Op tBool) w.law25_take)
theorem K_law25_ScriptAny (w : C_law25_ScriptAny) (h_law25_fit : Ok_law25_fit w.law25_fit) (h_script_Encode : Ok_script_Encode w.script_Encode) (h_script_Decode : Ok_script_Decode w.script_Decode) (h_vary_Of : Ok_vary_Of w.vary_Of) (h_law25_take : Ok_law25_take w.law25_take) : KnownOK Tryz.prog T (O_law25_ScriptAny w) :=
  known_ok ok (known_ok ok (known_ok ok (known_ok ok (known_ok ok (known0_ok) fn_law25_fit (by kernel_rfl) (g0_ok h_law25_fit)) fn_script_Encode (by kernel_rfl) (g1_ok h_script_Encode)) fn_script_Decode (by kernel_rfl) (g1_ok h_script_Decode)) fn_vary_Of (by kernel_rfl) (g1_ok h_vary_Of)) fn_law25_take (by kernel_rfl) (g1_ok h_law25_take)
structure C_strings_Builder_WriteString where
  strings_Builder_copyCheck : Pt → Heap → Option (Unit × Heap)
noncomputable def O_strings_Builder_WriteString (w : C_strings_Builder_WriteString) : Known := (known0).and 95 (g1 tPtr tVoid w.strings_Builder_copyCheck)
theorem K_strings_Builder_WriteString (w : C_strings_Builder_WriteString) (h_strings_Builder_copyCheck : Ok_strings_Builder_copyCheck w.strings_Builder_copyCheck) : KnownOK Tryz.prog T (O_strings_Builder_WriteString w) :=
  known_ok ok (known0_ok) fn_strings_Builder_copyCheck (by kernel_rfl) (g1_ok h_strings_Builder_copyCheck)
structure C_unicode_utf8_AppendRune where
  unicode_utf8_appendRuneNonASCII : Sl → Int → Heap → Option (Sl × Heap)
noncomputable def O_unicode_utf8_AppendRune (w : C_unicode_utf8_AppendRune) : Known := (known0).and 97 (g2 (tSl 1) (tInt .i32) (tSl 1) w.unicode_utf8_appendRuneNonASCII)
theorem K_unicode_utf8_AppendRune (w : C_unicode_utf8_AppendRune) (h_unicode_utf8_appendRuneNonASCII : Ok_unicode_utf8_appendRuneNonASCII w.unicode_utf8_appendRuneNonASCII) : KnownOK Tryz.prog T (O_unicode_utf8_AppendRune w) :=
  known_ok ok (known0_ok) fn_unicode_utf8_appendRuneNonASCII (by kernel_rfl) (g2_ok h_unicode_utf8_appendRuneNonASCII)
structure C_json_Quote where
  unicode_utf8_AppendRune : Sl → Int → Heap → Option (Sl × Heap)
noncomputable def O_json_Quote (w : C_json_Quote) : Known := (known0).and 61 (g2 (tSl 1) (tInt .i32) (tSl 1) w.unicode_utf8_AppendRune)
theorem K_json_Quote (w : C_json_Quote) (h_unicode_utf8_AppendRune : Ok_unicode_utf8_AppendRune w.unicode_utf8_AppendRune) : KnownOK Tryz.prog T (O_json_Quote w) :=
  known_ok ok (known0_ok) fn_unicode_utf8_AppendRune (by kernel_rfl) (g2_ok h_unicode_utf8_AppendRune)
structure C_grid_Grid_Text where
  grid_Grid_there : Pt → Int → Int → Heap → Option (Bool × Heap)
noncomputable def O_grid_Grid_Text (w : C_grid_Grid_Text) : Known := (known0).and 62 (g3 tPtr (tInt .i64) (tInt .i64) tBool w.grid_Grid_there)
theorem K_grid_Grid_Text (w : C_grid_Grid_Text) (h_grid_Grid_there : Ok_grid_Grid_there w.grid_Grid_there) : KnownOK Tryz.prog T (O_grid_Grid_Text w) :=
  known_ok ok (known0_ok) fn_grid_Grid_there (by kernel_rfl) (g3_ok h_grid_Grid_there)
structure C_tell_ints where
  strconv_Itoa : Int → Heap → Option (ByteArray × Heap)
noncomputable def O_tell_ints (w : C_tell_ints) : Known := (known0).and 60 (g1 (tInt .i64) tStr w.strconv_Itoa)
theorem K_tell_ints (w : C_tell_ints) (h_strconv_Itoa : Ok_strconv_Itoa w.strconv_Itoa) : KnownOK Tryz.prog T (O_tell_ints w) :=
  known_ok ok (known0_ok) fn_strconv_Itoa (by kernel_rfl) (g1_ok h_strconv_Itoa)
structure C_tell_screen_Lines where
  json_Quote : ByteArray → Heap → Option (ByteArray × Heap)
  grid_Grid_Text : Pt → Int → Heap → Option (ByteArray × Heap)
  tell_ints : Sl → Heap → Option (ByteArray × Heap)
noncomputable def O_tell_screen_Lines (w : C_tell_screen_Lines) : Known := (((known0).and 41 (g1 tStr tStr w.json_Quote)).and 42 (g2 tPtr (tInt .i64) tStr w.grid_Grid_Text)).and 73 (g1 (tSl 1) tStr w.tell_ints)
theorem K_tell_screen_Lines (w : C_tell_screen_Lines) (h_json_Quote : Ok_json_Quote w.json_Quote) (h_grid_Grid_Text : Ok_grid_Grid_Text w.grid_Grid_Text) (h_tell_ints : Ok_tell_ints w.tell_ints) : KnownOK Tryz.prog T (O_tell_screen_Lines w) :=
  known_ok ok (known_ok ok (known_ok ok (known0_ok) fn_json_Quote (by kernel_rfl) (g1_ok h_json_Quote)) fn_grid_Grid_Text (by kernel_rfl) (g2_ok h_grid_Grid_Text)) fn_tell_ints (by kernel_rfl) (g1_ok h_tell_ints)
structure C_tell_rec_Lines where
  json_Quote : ByteArray → Heap → Option (ByteArray × Heap)
  tell_ints : Sl → Heap → Option (ByteArray × Heap)
noncomputable def O_tell_rec_Lines (w : C_tell_rec_Lines) : Known := ((known0).and 41 (g1 tStr tStr w.json_Quote)).and 73 (g1 (tSl 1) tStr w.tell_ints)
theorem K_tell_rec_Lines (w : C_tell_rec_Lines) (h_json_Quote : Ok_json_Quote w.json_Quote) (h_tell_ints : Ok_tell_ints w.tell_ints) : KnownOK Tryz.prog T (O_tell_rec_Lines w) :=
  known_ok ok (known_ok ok (known0_ok) fn_json_Quote (by kernel_rfl) (g1_ok h_json_Quote)) fn_tell_ints (by kernel_rfl) (g1_ok h_tell_ints)
structure C_tell_lines where
  strings_Builder_WriteString : Pt → ByteArray → Heap → Option ((Int × Er) × Heap)
  strings_Builder_String : Pt → Heap → Option (ByteArray × Heap)
  tell_screen_Lines : tell_screen → Heap → Option (Sl × Heap)
  tell_rec_Lines : tell_rec → Heap → Option (Sl × Heap)
noncomputable def O_tell_lines (w : C_tell_lines) : Known := ((((known0).and 58 (g2 tPtr tStr (tPair (tInt .i64) tErr) w.strings_Builder_WriteString)).and 59 (g1 tPtr tStr w.strings_Builder_String)).and 388 (g1 t_tell_screen (tSl 1) w.tell_screen_Lines)).and 389 (g1 t_tell_rec (tSl 1) w.tell_rec_Lines)
theorem K_tell_lines (w : C_tell_lines) (h_strings_Builder_WriteString : Ok_strings_Builder_WriteString w.strings_Builder_WriteString) (h_strings_Builder_String : Ok_strings_Builder_String w.strings_Builder_String) (h_tell_screen_Lines : Ok_tell_screen_Lines w.tell_screen_Lines) (h_tell_rec_Lines : Ok_tell_rec_Lines w.tell_rec_Lines) : KnownOK Tryz.prog T (O_tell_lines w) :=
  known_ok ok (known_ok ok (known_ok ok (known_ok ok (known0_ok) fn_strings_Builder_WriteString (by kernel_rfl) (g2_ok h_strings_Builder_WriteString)) fn_strings_Builder_String (by kernel_rfl) (g1_ok h_strings_Builder_String)) fn_tell_screen_Lines (by kernel_rfl) (g1_ok h_tell_screen_Lines)) fn_tell_rec_Lines (by kernel_rfl) (g1_ok h_tell_rec_Lines)
structure C_tell_Screen where
  tell_lines : Sl → Heap → Option (ByteArray × Heap)
noncomputable def O_tell_Screen (w : C_tell_Screen) : Known := (known0).and 39 (g1 (tSl 1) tStr w.tell_lines)
theorem K_tell_Screen (w : C_tell_Screen) (h_tell_lines : Ok_tell_lines w.tell_lines) : KnownOK Tryz.prog T (O_tell_Screen w) :=
  known_ok ok (known0_ok) fn_tell_lines (by kernel_rfl) (g1_ok h_tell_lines)
structure C_tell_Rec where
  tell_lines : Sl → Heap → Option (ByteArray × Heap)
noncomputable def O_tell_Rec (w : C_tell_Rec) : Known := (known0).and 39 (g1 (tSl 1) tStr w.tell_lines)
theorem K_tell_Rec (w : C_tell_Rec) (h_tell_lines : Ok_tell_lines w.tell_lines) : KnownOK Tryz.prog T (O_tell_Rec w) :=
  known_ok ok (known0_ok) fn_tell_lines (by kernel_rfl) (g1_ok h_tell_lines)
structure C_mux_Mux_Boxes where
  layout_Layout_Boxes : Pt → Int → Int → Heap → Option (((Option Nat) × Sl) × Heap)
  mux_Mux_sides : Pt → Heap → Option ((Int × Int) × Heap)
noncomputable def O_mux_Mux_Boxes (w : C_mux_Mux_Boxes) : Known := ((known0).and 103 (g3 tPtr (tInt .i64) (tInt .i64) (tPair tMap (tSl 4)) w.layout_Layout_Boxes)).and 104 (g1 tPtr (tPair (tInt .i64) (tInt .i64)) w.mux_Mux_sides)
theorem K_mux_Mux_Boxes (w : C_mux_Mux_Boxes) (h_layout_Layout_Boxes : Ok_layout_Layout_Boxes w.layout_Layout_Boxes) (h_mux_Mux_sides : Ok_mux_Mux_sides w.mux_Mux_sides) : KnownOK Tryz.prog T (O_mux_Mux_Boxes w) :=
  known_ok ok (known_ok ok (known0_ok) fn_layout_Layout_Boxes (by kernel_rfl) (g3_ok h_layout_Layout_Boxes)) fn_mux_Mux_sides (by kernel_rfl) (g1_ok h_mux_Mux_sides)
structure C_tell_Store where
  tell_lines : Sl → Heap → Option (ByteArray × Heap)
noncomputable def O_tell_Store (w : C_tell_Store) : Known := (known0).and 39 (g1 (tSl 1) tStr w.tell_lines)
theorem K_tell_Store (w : C_tell_Store) (h_tell_lines : Ok_tell_lines w.tell_lines) : KnownOK Tryz.prog T (O_tell_Store w) :=
  known_ok ok (known0_ok) fn_tell_lines (by kernel_rfl) (g1_ok h_tell_lines)
structure C_tell_pasts where
  mux_Mux_Panes : Pt → Heap → Option (Sl × Heap)
  tell_ints : Sl → Heap → Option (ByteArray × Heap)
  mux_Mux_Looks : Pt → Int → Int → Heap → Option ((Pt × Int × Bool) × Heap)
noncomputable def O_tell_pasts (w : C_tell_pasts) : Known := (((known0).and 27 (g1 tPtr (tSl 1) w.mux_Mux_Panes)).and 73 (g1 (tSl 1) tStr w.tell_ints)).and 119 (g3 tPtr (tInt .i64) (tInt .i64) (tTrip tPtr (tInt .i64) tBool) w.mux_Mux_Looks)
theorem K_tell_pasts (w : C_tell_pasts) (h_mux_Mux_Panes : Ok_mux_Mux_Panes w.mux_Mux_Panes) (h_tell_ints : Ok_tell_ints w.tell_ints) (h_mux_Mux_Looks : Ok_mux_Mux_Looks w.mux_Mux_Looks) : KnownOK Tryz.prog T (O_tell_pasts w) :=
  known_ok ok (known_ok ok (known_ok ok (known0_ok) fn_mux_Mux_Panes (by kernel_rfl) (g1_ok h_mux_Mux_Panes)) fn_tell_ints (by kernel_rfl) (g1_ok h_tell_ints)) fn_mux_Mux_Looks (by kernel_rfl) (g3_ok h_mux_Mux_Looks)
structure C_tell_Mux where
  tell_Screen : Pt → Heap → Option (ByteArray × Heap)
  tell_Rec : Pt → Heap → Option (ByteArray × Heap)
  mux_Mux_Now : Pt → Heap → Option (Int × Heap)
  mux_Mux_Panes : Pt → Heap → Option (Sl × Heap)
  mux_Mux_Boxes : Pt → Heap → Option (((Option Nat) × Sl) × Heap)
  tell_ints : Sl → Heap → Option (ByteArray × Heap)
  mux_Mux_Down : Pt → Heap → Option (Bool × Heap)
  tell_Store : Pt → Heap → Option (ByteArray × Heap)
  mux_Mux_Pane : Pt → Int → Heap → Option (Pt × Heap)
  mux_Mux_Rec : Pt → Int → Heap → Option (Pt × Heap)
  mux_Mux_Clients : Pt → Heap → Option (Sl × Heap)
  mux_Mux_Focus : Pt → Int → Heap → Option (Int × Heap)
  tell_pasts : Pt → Int → Heap → Option (ByteArray × Heap)
noncomputable def O_tell_Mux (w : C_tell_Mux) : Known := (((((((((((((known0).and 18 (g1 tPtr tStr w.tell_Screen)).and 22 (g1 tPtr tStr w.tell_Rec)).and 26 (g1 tPtr (tInt .i64) w.mux_Mux_Now)).and 27 (g1 tPtr (tSl 1) w.mux_Mux_Panes)).and 65 (g1 tPtr (tPair tMap (tSl 4)) w.mux_Mux_Boxes)).and 73 (g1 (tSl 1) tStr w.tell_ints)).and 74 (g1 tPtr tBool w.mux_Mux_Down)).and 75 (g1 tPtr tStr w.tell_Store)).and 76 (g2 tPtr (tInt .i64) tPtr w.mux_Mux_Pane)).and 77 (g2 tPtr (tInt .i64) tPtr w.mux_Mux_Rec)).and 78 (g1 tPtr (tSl 1) w.mux_Mux_Clients)).and 79 (g2 tPtr (tInt .i64) (tInt .i64) w.mux_Mux_Focus)).and 80 (g2 tPtr (tInt .i64) tStr w.tell_pasts)
theorem K_tell_Mux (w : C_tell_Mux) (h_tell_Screen : Ok_tell_Screen w.tell_Screen) (h_tell_Rec : Ok_tell_Rec w.tell_Rec) (h_mux_Mux_Now : Ok_mux_Mux_Now w.mux_Mux_Now) (h_mux_Mux_Panes : Ok_mux_Mux_Panes w.mux_Mux_Panes) (h_mux_Mux_Boxes : Ok_mux_Mux_Boxes w.mux_Mux_Boxes) (h_tell_ints : Ok_tell_ints w.tell_ints) (h_mux_Mux_Down : Ok_mux_Mux_Down w.mux_Mux_Down) (h_tell_Store : Ok_tell_Store w.tell_Store) (h_mux_Mux_Pane : Ok_mux_Mux_Pane w.mux_Mux_Pane) (h_mux_Mux_Rec : Ok_mux_Mux_Rec w.mux_Mux_Rec) (h_mux_Mux_Clients : Ok_mux_Mux_Clients w.mux_Mux_Clients) (h_mux_Mux_Focus : Ok_mux_Mux_Focus w.mux_Mux_Focus) (h_tell_pasts : Ok_tell_pasts w.tell_pasts) : KnownOK Tryz.prog T (O_tell_Mux w) :=
  known_ok ok (known_ok ok (known_ok ok (known_ok ok (known_ok ok (known_ok ok (known_ok ok (known_ok ok (known_ok ok (known_ok ok (known_ok ok (known_ok ok (known_ok ok (known0_ok) fn_tell_Screen (by kernel_rfl) (g1_ok h_tell_Screen)) fn_tell_Rec (by kernel_rfl) (g1_ok h_tell_Rec)) fn_mux_Mux_Now (by kernel_rfl) (g1_ok h_mux_Mux_Now)) fn_mux_Mux_Panes (by kernel_rfl) (g1_ok h_mux_Mux_Panes)) fn_mux_Mux_Boxes (by kernel_rfl) (g1_ok h_mux_Mux_Boxes)) fn_tell_ints (by kernel_rfl) (g1_ok h_tell_ints)) fn_mux_Mux_Down (by kernel_rfl) (g1_ok h_mux_Mux_Down)) fn_tell_Store (by kernel_rfl) (g1_ok h_tell_Store)) fn_mux_Mux_Pane (by kernel_rfl) (g2_ok h_mux_Mux_Pane)) fn_mux_Mux_Rec (by kernel_rfl) (g2_ok h_mux_Mux_Rec)) fn_mux_Mux_Clients (by kernel_rfl) (g1_ok h_mux_Mux_Clients)) fn_mux_Mux_Focus (by kernel_rfl) (g2_ok h_mux_Mux_Focus)) fn_tell_pasts (by kernel_rfl) (g2_ok h_tell_pasts)
structure C_tell_Run where
  script_Decode : Sl → Heap → Option (Sl × Heap)
  mux_New : Int → Heap → Option (Pt × Heap)
  script_Run : Pt → Sl → Heap → Option (Int × Heap)
  tell_Mux : Pt → Heap → Option (ByteArray × Heap)
noncomputable def O_tell_Run (w : C_tell_Run) : Known := ((((known0).and 11 (g1 (tSl 1) (tSl 7) w.script_Decode)).and 24 (g1 (tInt .i64) tPtr w.mux_New)).and 25 (g2 tPtr (tSl 7) (tInt .i64) w.script_Run)).and 52 (g1 tPtr tStr w.tell_Mux)
theorem K_tell_Run (w : C_tell_Run) (h_script_Decode : Ok_script_Decode w.script_Decode) (h_mux_New : Ok_mux_New w.mux_New) (h_script_Run : Ok_script_Run w.script_Run) (h_tell_Mux : Ok_tell_Mux w.tell_Mux) : KnownOK Tryz.prog T (O_tell_Run w) :=
  known_ok ok (known_ok ok (known_ok ok (known_ok ok (known0_ok) fn_script_Decode (by kernel_rfl) (g1_ok h_script_Decode)) fn_mux_New (by kernel_rfl) (g1_ok h_mux_New)) fn_script_Run (by kernel_rfl) (g2_ok h_script_Run)) fn_tell_Mux (by kernel_rfl) (g1_ok h_tell_Mux)
structure C_law26_fit where
  term_New : Int → Int → Heap → Option (Pt × Heap)
  mux_New : Int → Heap → Option (Pt × Heap)
  tell_Run : Int → Sl → Heap → Option (ByteArray × Heap)
noncomputable def O_law26_fit (w : C_law26_fit) : Known := (((known0).and 16 (g2 (tInt .i64) (tInt .i64) tPtr w.term_New)).and 24 (g1 (tInt .i64) tPtr w.mux_New)).and 35 (g2 (tInt .i64) (tSl 1) tStr w.tell_Run)
theorem K_law26_fit (w : C_law26_fit) (h_term_New : Ok_term_New w.term_New) (h_mux_New : Ok_mux_New w.mux_New) (h_tell_Run : Ok_tell_Run w.tell_Run) : KnownOK Tryz.prog T (O_law26_fit w) :=
  known_ok ok (known_ok ok (known_ok ok (known0_ok) fn_term_New (by kernel_rfl) (g2_ok h_term_New)) fn_mux_New (by kernel_rfl) (g1_ok h_mux_New)) fn_tell_Run (by kernel_rfl) (g2_ok h_tell_Run)
structure C_law13_Plan_Tame where
  ref12_Tame : Sl → Heap → Option (Sl × Heap)
noncomputable def O_law13_Plan_Tame (w : C_law13_Plan_Tame) : Known := (known0).and 43 (g1 (tSl 5) (tSl 5) w.ref12_Tame)
theorem K_law13_Plan_Tame (w : C_law13_Plan_Tame) (h_ref12_Tame : Ok_ref12_Tame w.ref12_Tame) : KnownOK Tryz.prog T (O_law13_Plan_Tame w) :=
  known_ok ok (known0_ok) fn_ref12_Tame (by kernel_rfl) (g1_ok h_ref12_Tame)
structure C_law26_words where
  strconv_Itoa : Int → Heap → Option (ByteArray × Heap)
noncomputable def O_law26_words (w : C_law26_words) : Known := (known0).and 60 (g1 (tInt .i64) tStr w.strconv_Itoa)
theorem K_law26_words (w : C_law26_words) (h_strconv_Itoa : Ok_strconv_Itoa w.strconv_Itoa) : KnownOK Tryz.prog T (O_law26_words w) :=
  known_ok ok (known0_ok) fn_strconv_Itoa (by kernel_rfl) (g1_ok h_strconv_Itoa)
structure C_law26_events where
  law26_words : Sl → Heap → Option (ByteArray × Heap)
  json_Quote : ByteArray → Heap → Option (ByteArray × Heap)
noncomputable def O_law26_events (w : C_law26_events) : Known := ((known0).and 40 (g1 (tSl 1) tStr w.law26_words)).and 41 (g1 tStr tStr w.json_Quote)
theorem K_law26_events (w : C_law26_events) (h_law26_words : Ok_law26_words w.law26_words) (h_json_Quote : Ok_json_Quote w.json_Quote) : KnownOK Tryz.prog T (O_law26_events w) :=
  known_ok ok (known_ok ok (known0_ok) fn_law26_words (by kernel_rfl) (g1_ok h_law26_words)) fn_json_Quote (by kernel_rfl) (g1_ok h_json_Quote)
structure C_law26_TellRecs where
  law26_fit : Heap → Option (Bool × Heap)
  law13_Plan_Few : law13_Plan → Heap → Option (Bool × Heap)
  law13_Plan_Tame : law13_Plan → Heap → Option (Sl × Heap)
  tell_Rec : Pt → Heap → Option (ByteArray × Heap)
  law26_events : Sl → Heap → Option (ByteArray × Heap)
noncomputable def O_law26_TellRecs (w : C_law26_TellRecs) : Known := (((((known0).and 14 (g0  tBool w.law26_fit)).and 20 (g1 t_law13_Plan tBool w.law13_Plan_Few)).and 21 (g1 t_law13_Plan (tSl 5) w.law13_Plan_Tame)).and 22 (g1 tPtr tStr w.tell_Rec)).and 23 (g1 (tSl 5) tStr w.law26_events)
theorem K_law26_TellRecs (w : C_law26_TellRecs) (h_law26_fit : Ok_law26_fit w.law26_fit) (h_law13_Plan_Few : Ok_law13_Plan_Few w.law13_Plan_Few) (h_law13_Plan_Tame : Ok_law13_Plan_Tame w.law13_Plan_Tame) (h_tell_Rec : Ok_tell_Rec w.tell_Rec) (h_law26_events : Ok_law26_events w.law26_events) : KnownOK Tryz.prog T (O_law26_TellRecs w) :=
  known_ok ok (known_ok ok (known_ok ok (known_ok ok (known_ok ok (known0_ok) fn_law26_fit (by kernel_rfl) (g0_ok h_law26_fit)) fn_law13_Plan_Few (by kernel_rfl) (g1_ok h_law13_Plan_Few)) fn_law13_Plan_Tame (by kernel_rfl) (g1_ok h_law13_Plan_Tame)) fn_tell_Rec (by kernel_rfl) (g1_ok h_tell_Rec)) fn_law26_events (by kernel_rfl) (g1_ok h_law26_events)
structure C_grid_Grid_Resize where
  grid_bring : Int → Heap → Option (Int × Heap)
  grid_blank : Int → api_Style → Heap → Option (Sl × Heap)
  grid_Fit : Sl → Int → Heap → Option (Sl × Heap)
noncomputable def O_grid_Grid_Resize (w : C_grid_Grid_Resize) : Known := (((known0).and 81 (g1 (tInt .i64) (tInt .i64) w.grid_bring)).and 82 (g2 (tInt .i64) t_api_Style (tSl 6) w.grid_blank)).and 93 (g2 (tSl 6) (tInt .i64) (tSl 6) w.grid_Fit)
theorem K_grid_Grid_Resize (w : C_grid_Grid_Resize) (h_grid_bring : Ok_grid_bring w.grid_bring) (h_grid_blank : Ok_grid_blank w.grid_blank) (h_grid_Fit : Ok_grid_Fit w.grid_Fit) : KnownOK Tryz.prog T (O_grid_Grid_Resize w) :=
  known_ok ok (known_ok ok (known_ok ok (known0_ok) fn_grid_bring (by kernel_rfl) (g1_ok h_grid_bring)) fn_grid_blank (by kernel_rfl) (g2_ok h_grid_blank)) fn_grid_Fit (by kernel_rfl) (g2_ok h_grid_Fit)
structure C_term_Term_keep where
  slices_Clone : Sl → Heap → Option (Sl × Heap)
noncomputable def O_term_Term_keep (w : C_term_Term_keep) : Known := (known0).and 94 (g1 (tSl 1) (tSl 1) w.slices_Clone)
theorem K_term_Term_keep (w : C_term_Term_keep) (h_slices_Clone : Ok_slices_Clone w.slices_Clone) : KnownOK Tryz.prog T (O_term_Term_keep w) :=
  known_ok ok (known0_ok) fn_slices_Clone (by kernel_rfl) (g1_ok h_slices_Clone)
structure C_term_Term_Resize where
  grid_Grid_Resize : Pt → Int → Int → Int → Heap → Option (Sl × Heap)
  term_Term_keep : Pt → Sl → Heap → Option (Unit × Heap)
noncomputable def O_term_Term_Resize (w : C_term_Term_Resize) : Known := ((known0).and 56 (g4 tPtr (tInt .i64) (tInt .i64) (tInt .i64) (tSl 1) w.grid_Grid_Resize)).and 57 (g2 tPtr (tSl 1) tVoid w.term_Term_keep)
theorem K_term_Term_Resize (w : C_term_Term_Resize) (h_grid_Grid_Resize : Ok_grid_Grid_Resize w.grid_Grid_Resize) (h_term_Term_keep : Ok_term_Term_keep w.term_Term_keep) : KnownOK Tryz.prog T (O_term_Term_Resize w) :=
  known_ok ok (known_ok ok (known0_ok) fn_grid_Grid_Resize (by kernel_rfl) (g4_ok h_grid_Grid_Resize)) fn_term_Term_keep (by kernel_rfl) (g2_ok h_term_Term_keep)
structure C_mux_Mux_note where
  log_Writer_Add : Pt → api_Event → Heap → Option (Int × Heap)
noncomputable def O_mux_Mux_note (w : C_mux_Mux_note) : Known := (known0).and 108 (g2 tPtr t_api_Event (tInt .i64) w.log_Writer_Add)
theorem K_mux_Mux_note (w : C_mux_Mux_note) (h_log_Writer_Add : Ok_log_Writer_Add w.log_Writer_Add) : KnownOK Tryz.prog T (O_mux_Mux_note w) :=
  known_ok ok (known0_ok) fn_log_Writer_Add (by kernel_rfl) (g2_ok h_log_Writer_Add)
structure C_crc_Frame where
  vary_Put : Sl → Sl → Heap → Option (Sl × Heap)
  crc_Sum : Sl → Heap → Option (Int × Heap)
noncomputable def O_crc_Frame (w : C_crc_Frame) : Known := ((known0).and 28 (g2 (tSl 1) (tSl 1) (tSl 1) w.vary_Put)).and 264 (g1 (tSl 1) (tInt .u32) w.crc_Sum)
theorem K_crc_Frame (w : C_crc_Frame) (h_vary_Put : Ok_vary_Put w.vary_Put) (h_crc_Sum : Ok_crc_Sum w.crc_Sum) : KnownOK Tryz.prog T (O_crc_Frame w) :=
  known_ok ok (known_ok ok (known0_ok) fn_vary_Put (by kernel_rfl) (g2_ok h_vary_Put)) fn_crc_Sum (by kernel_rfl) (g1_ok h_crc_Sum)
structure C_log_frame where
  crc_Frame : Sl → Sl → Heap → Option (Sl × Heap)
noncomputable def O_log_frame (w : C_log_frame) : Known := (known0).and 219 (g2 (tSl 1) (tSl 1) (tSl 1) w.crc_Frame)
theorem K_log_frame (w : C_log_frame) (h_crc_Frame : Ok_crc_Frame w.crc_Frame) : KnownOK Tryz.prog T (O_log_frame w) :=
  known_ok ok (known0_ok) fn_crc_Frame (by kernel_rfl) (g2_ok h_crc_Frame)
structure C_event_Put where
  vary_Put : Sl → Sl → Heap → Option (Sl × Heap)
  vary_PutText : Sl → ByteArray → Heap → Option (Sl × Heap)
noncomputable def O_event_Put (w : C_event_Put) : Known := ((known0).and 28 (g2 (tSl 1) (tSl 1) (tSl 1) w.vary_Put)).and 29 (g2 (tSl 1) tStr (tSl 1) w.vary_PutText)
theorem K_event_Put (w : C_event_Put) (h_vary_Put : Ok_vary_Put w.vary_Put) (h_vary_PutText : Ok_vary_PutText w.vary_PutText) : KnownOK Tryz.prog T (O_event_Put w) :=
  known_ok ok (known_ok ok (known0_ok) fn_vary_Put (by kernel_rfl) (g2_ok h_vary_Put)) fn_vary_PutText (by kernel_rfl) (g2_ok h_vary_PutText)
end Go.Abs.TE
