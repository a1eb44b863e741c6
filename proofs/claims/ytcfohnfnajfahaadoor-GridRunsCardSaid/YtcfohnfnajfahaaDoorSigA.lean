/-
What is known of each function, by its callees.
-/
import Derived.Test.YtcfohnfnajfahaaDoorTypA
namespace Go.Abs.TA
open Go Go.Abs Go.Proofs
def Ok_cell_change (w : api_Style → Int → Heap → Option (api_Style × Heap)) : Prop := ∀ x0 x1 σ v σ', w x0 x1 σ = some (v, σ') → CallOK Tryd.prog T 54 [t_api_Style.av x0, (tInt .i64).av x1] σ (t_api_Style.av v) σ'
theorem fn_cell_change : T.fn 54 = some Tryd.f54 := by kernel_rfl
def Ok_cell_Change (w : api_Style → Sl → Heap → Option (api_Style × Heap)) : Prop := ∀ x0 x1 σ v σ', w x0 x1 σ = some (v, σ') → CallOK Tryd.prog T 18 [t_api_Style.av x0, (tSl 1).av x1] σ (t_api_Style.av v) σ'
theorem fn_cell_Change : T.fn 18 = some Tryd.f18 := by kernel_rfl
def Ok_slices_Clone (w : Sl → Heap → Option (Sl × Heap)) : Prop := ∀ x0 σ v σ', w x0 σ = some (v, σ') → CallOK Tryd.prog T 55 [(tSl 6).av x0] σ ((tSl 6).av v) σ'
theorem fn_slices_Clone : T.fn 55 = some Tryd.f55 := by kernel_rfl
def Ok_glyph_Wide (w : Int → Heap → Option (Bool × Heap)) : Prop := ∀ x0 σ v σ', w x0 σ = some (v, σ') → CallOK Tryd.prog T 57 [(tInt .i32).av x0] σ (tBool.av v) σ'
theorem fn_glyph_Wide : T.fn 57 = some Tryd.f57 := by kernel_rfl
def Ok_cell_paired (w : Sl → Int → Heap → Option (Bool × Heap)) : Prop := ∀ x0 x1 σ v σ', w x0 x1 σ = some (v, σ') → CallOK Tryd.prog T 56 [(tSl 6).av x0, (tInt .i64).av x1] σ (tBool.av v) σ'
theorem fn_cell_paired : T.fn 56 = some Tryd.f56 := by kernel_rfl
def Ok_cell_Mend (w : Sl → Heap → Option (Sl × Heap)) : Prop := ∀ x0 σ v σ', w x0 σ = some (v, σ') → CallOK Tryd.prog T 24 [(tSl 6).av x0] σ ((tSl 6).av v) σ'
theorem fn_cell_Mend : T.fn 24 = some Tryd.f24 := by kernel_rfl
def Ok_cell_Style (w : api_Style → Heap → Option (Bool × Heap)) : Prop := ∀ x0 σ v σ', w x0 σ = some (v, σ') → CallOK Tryd.prog T 20 [t_api_Style.av x0] σ (tBool.av v) σ'
theorem fn_cell_Style : T.fn 20 = some Tryd.f20 := by kernel_rfl
def Ok_glyph_Right (w : Int → Heap → Option (Bool × Heap)) : Prop := ∀ x0 σ v σ', w x0 σ = some (v, σ') → CallOK Tryd.prog T 59 [(tInt .i32).av x0] σ (tBool.av v) σ'
theorem fn_glyph_Right : T.fn 59 = some Tryd.f59 := by kernel_rfl
def Ok_cell_Right (w : api_Cell → Heap → Option (Bool × Heap)) : Prop := ∀ x0 σ v σ', w x0 σ = some (v, σ') → CallOK Tryd.prog T 30 [t_api_Cell.av x0] σ (tBool.av v) σ'
theorem fn_cell_Right : T.fn 30 = some Tryd.f30 := by kernel_rfl
def Ok_cell_Blank (w : api_Style → Heap → Option (api_Cell × Heap)) : Prop := ∀ x0 σ v σ', w x0 σ = some (v, σ') → CallOK Tryd.prog T 34 [t_api_Style.av x0] σ (t_api_Cell.av v) σ'
theorem fn_cell_Blank : T.fn 34 = some Tryd.f34 := by kernel_rfl
def Ok_law08_fit (w : Heap → Option (Bool × Heap)) : Prop := ∀ σ v σ', w σ = some (v, σ') → CallOK Tryd.prog T 17 [] σ (tBool.av v) σ'
theorem fn_law08_fit : T.fn 17 = some Tryd.f17 := by kernel_rfl
def Ok_law08_CellChanges (w : api_Style → Sl → Int → Heap → Option (Bool × Heap)) : Prop := ∀ x0 x1 x2 σ v σ', w x0 x1 x2 σ = some (v, σ') → CallOK Tryd.prog T 3 [t_api_Style.av x0, (tSl 1).av x1, (tInt .i64).av x2] σ (tBool.av v) σ'
theorem fn_law08_CellChanges : T.fn 3 = some Tryd.f3 := by kernel_rfl
def Ok_ref08_Style (w : api_Style → Heap → Option (Bool × Heap)) : Prop := ∀ x0 σ v σ', w x0 σ = some (v, σ') → CallOK Tryd.prog T 19 [t_api_Style.av x0] σ (tBool.av v) σ'
theorem fn_ref08_Style : T.fn 19 = some Tryd.f19 := by kernel_rfl
def Ok_ref08_Change (w : api_Style → Int → Heap → Option (api_Style × Heap)) : Prop := ∀ x0 x1 σ v σ', w x0 x1 σ = some (v, σ') → CallOK Tryd.prog T 21 [t_api_Style.av x0, (tInt .i64).av x1] σ (t_api_Style.av v) σ'
theorem fn_ref08_Change : T.fn 21 = some Tryd.f21 := by kernel_rfl
def Ok_cell_Params (w : api_Style → Heap → Option (Sl × Heap)) : Prop := ∀ x0 σ v σ', w x0 σ = some (v, σ') → CallOK Tryd.prog T 22 [t_api_Style.av x0] σ ((tSl 1).av v) σ'
theorem fn_cell_Params : T.fn 22 = some Tryd.f22 := by kernel_rfl
def Ok_law08_CellStyles (w : api_Style → api_Style → Int → Heap → Option (Bool × Heap)) : Prop := ∀ x0 x1 x2 σ v σ', w x0 x1 x2 σ = some (v, σ') → CallOK Tryd.prog T 4 [t_api_Style.av x0, t_api_Style.av x1, (tInt .i64).av x2] σ (tBool.av v) σ'
theorem fn_law08_CellStyles : T.fn 4 = some Tryd.f4 := by kernel_rfl
def Ok_ref07_among (w : Int → Int → Int → Heap → Option (Bool × Heap)) : Prop := ∀ x0 x1 x2 σ v σ', w x0 x1 x2 σ = some (v, σ') → CallOK Tryd.prog T 58 [(tInt .i32).av x0, (tInt .i32).av x1, (tInt .i32).av x2] σ (tBool.av v) σ'
theorem fn_ref07_among : T.fn 58 = some Tryd.f58 := by kernel_rfl
def Ok_ref07_Right (w : Int → Heap → Option (Bool × Heap)) : Prop := ∀ x0 σ v σ', w x0 σ = some (v, σ') → CallOK Tryd.prog T 29 [(tInt .i32).av x0] σ (tBool.av v) σ'
theorem fn_ref07_Right : T.fn 29 = some Tryd.f29 := by kernel_rfl
def Ok_law08_Tame (w : Sl → Heap → Option (Sl × Heap)) : Prop := ∀ x0 σ v σ', w x0 σ = some (v, σ') → CallOK Tryd.prog T 23 [(tSl 6).av x0] σ ((tSl 6).av v) σ'
theorem fn_law08_Tame : T.fn 23 = some Tryd.f23 := by kernel_rfl
def Ok_ref07_Wide (w : Int → Heap → Option (Bool × Heap)) : Prop := ∀ x0 σ v σ', w x0 σ = some (v, σ') → CallOK Tryd.prog T 28 [(tInt .i32).av x0] σ (tBool.av v) σ'
theorem fn_ref07_Wide : T.fn 28 = some Tryd.f28 := by kernel_rfl
def Ok_ref08_Mend (w : Sl → Heap → Option (Sl × Heap)) : Prop := ∀ x0 σ v σ', w x0 σ = some (v, σ') → CallOK Tryd.prog T 25 [(tSl 6).av x0] σ ((tSl 6).av v) σ'
theorem fn_ref08_Mend : T.fn 25 = some Tryd.f25 := by kernel_rfl
def Ok_law08_Same (w : Sl → Sl → Heap → Option (Bool × Heap)) : Prop := ∀ x0 x1 σ v σ', w x0 x1 σ = some (v, σ') → CallOK Tryd.prog T 26 [(tSl 6).av x0, (tSl 6).av x1] σ (tBool.av v) σ'
theorem fn_law08_Same : T.fn 26 = some Tryd.f26 := by kernel_rfl
def Ok_cell_Whole (w : Sl → Heap → Option (Bool × Heap)) : Prop := ∀ x0 σ v σ', w x0 σ = some (v, σ') → CallOK Tryd.prog T 27 [(tSl 6).av x0] σ (tBool.av v) σ'
theorem fn_cell_Whole : T.fn 27 = some Tryd.f27 := by kernel_rfl
def Ok_law08_CellMends (w : Sl → Heap → Option (Bool × Heap)) : Prop := ∀ x0 σ v σ', w x0 σ = some (v, σ') → CallOK Tryd.prog T 5 [(tSl 6).av x0] σ (tBool.av v) σ'
theorem fn_law08_CellMends : T.fn 5 = some Tryd.f5 := by kernel_rfl
def Ok_law08_CellWholes (w : Sl → Heap → Option (Bool × Heap)) : Prop := ∀ x0 σ v σ', w x0 σ = some (v, σ') → CallOK Tryd.prog T 6 [(tSl 6).av x0] σ (tBool.av v) σ'
theorem fn_law08_CellWholes : T.fn 6 = some Tryd.f6 := by kernel_rfl
def Ok_vary_Of (w : Sl → Heap → Option (Pt × Heap)) : Prop := ∀ x0 σ v σ', w x0 σ = some (v, σ') → CallOK Tryd.prog T 31 [(tSl 1).av x0] σ (tPtr.av v) σ'
theorem fn_vary_Of : T.fn 31 = some Tryd.f31 := by kernel_rfl
def Ok_vary_Put (w : Sl → Sl → Heap → Option (Sl × Heap)) : Prop := ∀ x0 x1 σ v σ', w x0 x1 σ = some (v, σ') → CallOK Tryd.prog T 60 [(tSl 1).av x0, (tSl 1).av x1] σ ((tSl 1).av v) σ'
theorem fn_vary_Put : T.fn 60 = some Tryd.f60 := by kernel_rfl
def Ok_cell_bits (w : api_Style → Heap → Option (Int × Heap)) : Prop := ∀ x0 σ v σ', w x0 σ = some (v, σ') → CallOK Tryd.prog T 61 [t_api_Style.av x0] σ ((tInt .u64).av v) σ'
theorem fn_cell_bits : T.fn 61 = some Tryd.f61 := by kernel_rfl
def Ok_cell_PutStyle (w : Sl → api_Style → Heap → Option (Sl × Heap)) : Prop := ∀ x0 x1 σ v σ', w x0 x1 σ = some (v, σ') → CallOK Tryd.prog T 32 [(tSl 1).av x0, t_api_Style.av x1] σ ((tSl 1).av v) σ'
theorem fn_cell_PutStyle : T.fn 32 = some Tryd.f32 := by kernel_rfl
def Ok_vary_Take (w : Sl → Heap → Option ((Int × Int) × Heap)) : Prop := ∀ x0 σ v σ', w x0 σ = some (v, σ') → CallOK Tryd.prog T 77 [(tSl 1).av x0] σ ((tPair (tInt .u64) (tInt .i64)).av v) σ'
theorem fn_vary_Take : T.fn 77 = some Tryd.f77 := by kernel_rfl
def Ok_vary_Reader_Num (w : Pt → Int → Heap → Option (Int × Heap)) : Prop := ∀ x0 x1 σ v σ', w x0 x1 σ = some (v, σ') → CallOK Tryd.prog T 62 [tPtr.av x0, (tInt .i64).av x1] σ ((tInt .i64).av v) σ'
theorem fn_vary_Reader_Num : T.fn 62 = some Tryd.f62 := by kernel_rfl
def Ok_vary_Reader_Good (w : Pt → Heap → Option (Bool × Heap)) : Prop := ∀ x0 σ v σ', w x0 σ = some (v, σ') → CallOK Tryd.prog T 63 [tPtr.av x0] σ (tBool.av v) σ'
theorem fn_vary_Reader_Good : T.fn 63 = some Tryd.f63 := by kernel_rfl
def Ok_cell_TakeStyle (w : Pt → Heap → Option ((api_Style × Bool) × Heap)) : Prop := ∀ x0 σ v σ', w x0 σ = some (v, σ') → CallOK Tryd.prog T 33 [tPtr.av x0] σ ((tPair t_api_Style tBool).av v) σ'
theorem fn_cell_TakeStyle : T.fn 33 = some Tryd.f33 := by kernel_rfl
def Ok_law08_CellRights (w : api_Cell → Sl → Heap → Option (Bool × Heap)) : Prop := ∀ x0 x1 σ v σ', w x0 x1 σ = some (v, σ') → CallOK Tryd.prog T 7 [t_api_Cell.av x0, (tSl 1).av x1] σ (tBool.av v) σ'
theorem fn_law08_CellRights : T.fn 7 = some Tryd.f7 := by kernel_rfl
def Ok_grid_Grid_there (w : Pt → Int → Int → Heap → Option (Bool × Heap)) : Prop := ∀ x0 x1 x2 σ v σ', w x0 x1 x2 σ = some (v, σ') → CallOK Tryd.prog T 65 [tPtr.av x0, (tInt .i64).av x1, (tInt .i64).av x2] σ (tBool.av v) σ'
theorem fn_grid_Grid_there : T.fn 65 = some Tryd.f65 := by kernel_rfl
def Ok_grid_Grid_Text (w : Pt → Int → Heap → Option (ByteArray × Heap)) : Prop := ∀ x0 x1 σ v σ', w x0 x1 σ = some (v, σ') → CallOK Tryd.prog T 37 [tPtr.av x0, (tInt .i64).av x1] σ (tStr.av v) σ'
theorem fn_grid_Grid_Text : T.fn 37 = some Tryd.f37 := by kernel_rfl
def Ok_grid_Grid_some (w : Pt → Int → Int → Int → Heap → Option ((Int × Int × Int) × Heap)) : Prop := ∀ x0 x1 x2 x3 σ v σ', w x0 x1 x2 x3 σ = some (v, σ') → CallOK Tryd.prog T 66 [tPtr.av x0, (tInt .i64).av x1, (tInt .i64).av x2, (tInt .i64).av x3] σ ((tTrip (tInt .i64) (tInt .i64) (tInt .i64)).av v) σ'
theorem fn_grid_Grid_some : T.fn 66 = some Tryd.f66 := by kernel_rfl
def Ok_math_bits_Mul64 (w : Int → Int → Heap → Option ((Int × Int) × Heap)) : Prop := ∀ x0 x1 σ v σ', w x0 x1 σ = some (v, σ') → CallOK Tryd.prog T 81 [(tInt .u64).av x0, (tInt .u64).av x1] σ ((tPair (tInt .u64) (tInt .u64)).av v) σ'
theorem fn_math_bits_Mul64 : T.fn 81 = some Tryd.f81 := by kernel_rfl
def Ok_math_bits_Mul (w : Int → Int → Heap → Option ((Int × Int) × Heap)) : Prop := ∀ x0 x1 σ v σ', w x0 x1 σ = some (v, σ') → CallOK Tryd.prog T 79 [(tInt .u64).av x0, (tInt .u64).av x1] σ ((tPair (tInt .u64) (tInt .u64)).av v) σ'
theorem fn_math_bits_Mul : T.fn 79 = some Tryd.f79 := by kernel_rfl
def Ok_slices_Repeat (w : Sl → Int → Heap → Option (Sl × Heap)) : Prop := ∀ x0 x1 σ v σ', w x0 x1 σ = some (v, σ') → CallOK Tryd.prog T 78 [(tSl 6).av x0, (tInt .i64).av x1] σ ((tSl 6).av v) σ'
theorem fn_slices_Repeat : T.fn 78 = some Tryd.f78 := by kernel_rfl
def Ok_grid_blank (w : Int → api_Style → Heap → Option (Sl × Heap)) : Prop := ∀ x0 x1 σ v σ', w x0 x1 σ = some (v, σ') → CallOK Tryd.prog T 67 [(tInt .i64).av x0, t_api_Style.av x1] σ ((tSl 6).av v) σ'
theorem fn_grid_blank : T.fn 67 = some Tryd.f67 := by kernel_rfl
def Ok_grid_Grid_Up (w : Pt → Int → Int → Int → api_Style → Heap → Option (Sl × Heap)) : Prop := ∀ x0 x1 x2 x3 x4 σ v σ', w x0 x1 x2 x3 x4 σ = some (v, σ') → CallOK Tryd.prog T 40 [tPtr.av x0, (tInt .i64).av x1, (tInt .i64).av x2, (tInt .i64).av x3, t_api_Style.av x4] σ ((tSl 1).av v) σ'
theorem fn_grid_Grid_Up : T.fn 40 = some Tryd.f40 := by kernel_rfl
def Ok_grid_Grid_At (w : Pt → Int → Int → Heap → Option (api_Cell × Heap)) : Prop := ∀ x0 x1 x2 σ v σ', w x0 x1 x2 σ = some (v, σ') → CallOK Tryd.prog T 48 [tPtr.av x0, (tInt .i64).av x1, (tInt .i64).av x2] σ (t_api_Cell.av v) σ'
theorem fn_grid_Grid_At : T.fn 48 = some Tryd.f48 := by kernel_rfl
def Ok_grid_bring (w : Int → Heap → Option (Int × Heap)) : Prop := ∀ x0 σ v σ', w x0 σ = some (v, σ') → CallOK Tryd.prog T 68 [(tInt .i64).av x0] σ ((tInt .i64).av v) σ'
theorem fn_grid_bring : T.fn 68 = some Tryd.f68 := by kernel_rfl
def Ok_grid_New (w : Int → Int → Heap → Option (Pt × Heap)) : Prop := ∀ x0 x1 σ v σ', w x0 x1 σ = some (v, σ') → CallOK Tryd.prog T 53 [(tInt .i64).av x0, (tInt .i64).av x1] σ (tPtr.av v) σ'
theorem fn_grid_New : T.fn 53 = some Tryd.f53 := by kernel_rfl
def Ok_grid_Grid_Put (w : Pt → Int → Int → api_Cell → Heap → Option (Unit × Heap)) : Prop := ∀ x0 x1 x2 x3 σ v σ', w x0 x1 x2 x3 σ = some (v, σ') → CallOK Tryd.prog T 64 [tPtr.av x0, (tInt .i64).av x1, (tInt .i64).av x2, t_api_Cell.av x3] σ (tVoid.av v) σ'
theorem fn_grid_Grid_Put : T.fn 64 = some Tryd.f64 := by kernel_rfl
def Ok_law09_fit (w : Heap → Option (Bool × Heap)) : Prop := ∀ σ v σ', w σ = some (v, σ') → CallOK Tryd.prog T 35 [] σ (tBool.av v) σ'
theorem fn_law09_fit : T.fn 35 = some Tryd.f35 := by kernel_rfl
def Ok_law09_Fill (w : Int → Int → Sl → Heap → Option (Pt × Heap)) : Prop := ∀ x0 x1 x2 σ v σ', w x0 x1 x2 σ = some (v, σ') → CallOK Tryd.prog T 36 [(tInt .i64).av x0, (tInt .i64).av x1, (tSl 6).av x2] σ (tPtr.av v) σ'
theorem fn_law09_Fill : T.fn 36 = some Tryd.f36 := by kernel_rfl
def Ok_law09_GridTexts (w : Arr_2_Int → Sl → Int → Heap → Option (Bool × Heap)) : Prop := ∀ x0 x1 x2 σ v σ', w x0 x1 x2 σ = some (v, σ') → CallOK Tryd.prog T 8 [t_Arr_2_Int.av x0, (tSl 6).av x1, (tInt .i64).av x2] σ (tBool.av v) σ'
theorem fn_law09_GridTexts : T.fn 8 = some Tryd.f8 := by kernel_rfl
def Ok_grid_Grid_Copy (w : Pt → Heap → Option (Pt × Heap)) : Prop := ∀ x0 σ v σ', w x0 σ = some (v, σ') → CallOK Tryd.prog T 38 [tPtr.av x0] σ (tPtr.av v) σ'
theorem fn_grid_Grid_Copy : T.fn 38 = some Tryd.f38 := by kernel_rfl
def Ok_law09_within (w : Int → Int → Int → Heap → Option (Int × Heap)) : Prop := ∀ x0 x1 x2 σ v σ', w x0 x1 x2 σ = some (v, σ') → CallOK Tryd.prog T 39 [(tInt .i64).av x0, (tInt .i64).av x1, (tInt .i64).av x2] σ ((tInt .i64).av v) σ'
theorem fn_law09_within : T.fn 39 = some Tryd.f39 := by kernel_rfl
def Ok_grid_Grid_Down (w : Pt → Int → Int → Int → api_Style → Heap → Option (Unit × Heap)) : Prop := ∀ x0 x1 x2 x3 x4 σ v σ', w x0 x1 x2 x3 x4 σ = some (v, σ') → CallOK Tryd.prog T 41 [tPtr.av x0, (tInt .i64).av x1, (tInt .i64).av x2, (tInt .i64).av x3, t_api_Style.av x4] σ (tVoid.av v) σ'
theorem fn_grid_Grid_Down : T.fn 41 = some Tryd.f41 := by kernel_rfl
def Ok_law09_GridLines (w : Arr_2_Int → Sl → Arr_3_Int → Heap → Option (Bool × Heap)) : Prop := ∀ x0 x1 x2 σ v σ', w x0 x1 x2 σ = some (v, σ') → CallOK Tryd.prog T 9 [t_Arr_2_Int.av x0, (tSl 6).av x1, t_Arr_3_Int.av x2] σ (tBool.av v) σ'
theorem fn_law09_GridLines : T.fn 9 = some Tryd.f9 := by kernel_rfl
def Ok_cell_TakeLine (w : Pt → Int → Heap → Option ((Sl × Bool) × Heap)) : Prop := ∀ x0 x1 σ v σ', w x0 x1 σ = some (v, σ') → CallOK Tryd.prog T 42 [tPtr.av x0, (tInt .i64).av x1] σ ((tPair (tSl 6) tBool).av v) σ'
theorem fn_cell_TakeLine : T.fn 42 = some Tryd.f42 := by kernel_rfl
def Ok_cell_PutLine (w : Sl → Sl → Heap → Option (Sl × Heap)) : Prop := ∀ x0 x1 σ v σ', w x0 x1 σ = some (v, σ') → CallOK Tryd.prog T 43 [(tSl 1).av x0, (tSl 6).av x1] σ ((tSl 1).av v) σ'
theorem fn_cell_PutLine : T.fn 43 = some Tryd.f43 := by kernel_rfl
def Ok_law08_CellAny (w : Sl → Int → Heap → Option (Bool × Heap)) : Prop := ∀ x0 x1 σ v σ', w x0 x1 σ = some (v, σ') → CallOK Tryd.prog T 10 [(tSl 1).av x0, (tInt .i64).av x1] σ (tBool.av v) σ'
theorem fn_law08_CellAny : T.fn 10 = some Tryd.f10 := by kernel_rfl
def Ok_grid_Fit (w : Sl → Int → Heap → Option (Sl × Heap)) : Prop := ∀ x0 x1 σ v σ', w x0 x1 σ = some (v, σ') → CallOK Tryd.prog T 44 [(tSl 6).av x0, (tInt .i64).av x1] σ ((tSl 6).av v) σ'
theorem fn_grid_Fit : T.fn 44 = some Tryd.f44 := by kernel_rfl
def Ok_law09_GridFits (w : Sl → Int → Heap → Option (Bool × Heap)) : Prop := ∀ x0 x1 σ v σ', w x0 x1 σ = some (v, σ') → CallOK Tryd.prog T 11 [(tSl 6).av x0, (tInt .i64).av x1] σ (tBool.av v) σ'
theorem fn_law09_GridFits : T.fn 11 = some Tryd.f11 := by kernel_rfl
def Ok_vary_Reader_Done (w : Pt → Heap → Option (Bool × Heap)) : Prop := ∀ x0 σ v σ', w x0 σ = some (v, σ') → CallOK Tryd.prog T 45 [tPtr.av x0] σ (tBool.av v) σ'
theorem fn_vary_Reader_Done : T.fn 45 = some Tryd.f45 := by kernel_rfl
def Ok_law08_CellLines (w : Sl → Int → Heap → Option (Bool × Heap)) : Prop := ∀ x0 x1 σ v σ', w x0 x1 σ = some (v, σ') → CallOK Tryd.prog T 12 [(tSl 6).av x0, (tInt .i64).av x1] σ (tBool.av v) σ'
theorem fn_law08_CellLines : T.fn 12 = some Tryd.f12 := by kernel_rfl
def Ok_grid_Grid_Resize (w : Pt → Int → Int → Int → Heap → Option (Sl × Heap)) : Prop := ∀ x0 x1 x2 x3 σ v σ', w x0 x1 x2 x3 σ = some (v, σ') → CallOK Tryd.prog T 46 [tPtr.av x0, (tInt .i64).av x1, (tInt .i64).av x2, (tInt .i64).av x3] σ ((tSl 1).av v) σ'
theorem fn_grid_Grid_Resize : T.fn 46 = some Tryd.f46 := by kernel_rfl
def Ok_law09_whole (w : Pt → Heap → Option (Bool × Heap)) : Prop := ∀ x0 σ v σ', w x0 σ = some (v, σ') → CallOK Tryd.prog T 47 [tPtr.av x0] σ (tBool.av v) σ'
theorem fn_law09_whole : T.fn 47 = some Tryd.f47 := by kernel_rfl
def Ok_slices_Equal (w : Sl → Sl → Heap → Option (Bool × Heap)) : Prop := ∀ x0 x1 σ v σ', w x0 x1 σ = some (v, σ') → CallOK Tryd.prog T 69 [(tSl 6).av x0, (tSl 6).av x1] σ (tBool.av v) σ'
theorem fn_slices_Equal : T.fn 69 = some Tryd.f69 := by kernel_rfl
def Ok_grid_Same (w : Pt → Pt → Heap → Option (Bool × Heap)) : Prop := ∀ x0 x1 σ v σ', w x0 x1 σ = some (v, σ') → CallOK Tryd.prog T 49 [tPtr.av x0, tPtr.av x1] σ (tBool.av v) σ'
theorem fn_grid_Same : T.fn 49 = some Tryd.f49 := by kernel_rfl
def Ok_law09_GridSizes (w : Arr_2_Int → Sl → Arr_2_Int → Heap → Option (Bool × Heap)) : Prop := ∀ x0 x1 x2 σ v σ', w x0 x1 x2 σ = some (v, σ') → CallOK Tryd.prog T 13 [t_Arr_2_Int.av x0, (tSl 6).av x1, t_Arr_2_Int.av x2] σ (tBool.av v) σ'
theorem fn_law09_GridSizes : T.fn 13 = some Tryd.f13 := by kernel_rfl
def Ok_law09_tame (w : api_Style → Heap → Option (api_Style × Heap)) : Prop := ∀ x0 σ v σ', w x0 σ = some (v, σ') → CallOK Tryd.prog T 70 [t_api_Style.av x0] σ (t_api_Style.av v) σ'
theorem fn_law09_tame : T.fn 70 = some Tryd.f70 := by kernel_rfl
def Ok_law09_Deed_kind (w : law09_Deed → Heap → Option (Int × Heap)) : Prop := ∀ x0 σ v σ', w x0 σ = some (v, σ') → CallOK Tryd.prog T 71 [t_law09_Deed.av x0] σ ((tInt .i64).av v) σ'
theorem fn_law09_Deed_kind : T.fn 71 = some Tryd.f71 := by kernel_rfl
def Ok_grid_Grid_Clear (w : Pt → Int → Int → Int → api_Style → Heap → Option (Unit × Heap)) : Prop := ∀ x0 x1 x2 x3 x4 σ v σ', w x0 x1 x2 x3 x4 σ = some (v, σ') → CallOK Tryd.prog T 72 [tPtr.av x0, (tInt .i64).av x1, (tInt .i64).av x2, (tInt .i64).av x3, t_api_Style.av x4] σ (tVoid.av v) σ'
theorem fn_grid_Grid_Clear : T.fn 72 = some Tryd.f72 := by kernel_rfl
def Ok_grid_Grid_Open (w : Pt → Int → Int → Int → api_Style → Heap → Option (Unit × Heap)) : Prop := ∀ x0 x1 x2 x3 x4 σ v σ', w x0 x1 x2 x3 x4 σ = some (v, σ') → CallOK Tryd.prog T 73 [tPtr.av x0, (tInt .i64).av x1, (tInt .i64).av x2, (tInt .i64).av x3, t_api_Style.av x4] σ (tVoid.av v) σ'
theorem fn_grid_Grid_Open : T.fn 73 = some Tryd.f73 := by kernel_rfl
def Ok_grid_Grid_Shut (w : Pt → Int → Int → Int → api_Style → Heap → Option (Unit × Heap)) : Prop := ∀ x0 x1 x2 x3 x4 σ v σ', w x0 x1 x2 x3 x4 σ = some (v, σ') → CallOK Tryd.prog T 74 [tPtr.av x0, (tInt .i64).av x1, (tInt .i64).av x2, (tInt .i64).av x3, t_api_Style.av x4] σ (tVoid.av v) σ'
theorem fn_grid_Grid_Shut : T.fn 74 = some Tryd.f74 := by kernel_rfl
def Ok_law09_do (w : Pt → law09_Deed → Heap → Option (Sl × Heap)) : Prop := ∀ x0 x1 σ v σ', w x0 x1 σ = some (v, σ') → CallOK Tryd.prog T 50 [tPtr.av x0, t_law09_Deed.av x1] σ ((tSl 1).av v) σ'
theorem fn_law09_do : T.fn 50 = some Tryd.f50 := by kernel_rfl
def Ok_law09_GridWholes (w : Arr_2_Int → Sl → Sl → Heap → Option (Bool × Heap)) : Prop := ∀ x0 x1 x2 σ v σ', w x0 x1 x2 σ = some (v, σ') → CallOK Tryd.prog T 14 [t_Arr_2_Int.av x0, (tSl 6).av x1, (tSl 10).av x2] σ (tBool.av v) σ'
theorem fn_law09_GridWholes : T.fn 14 = some Tryd.f14 := by kernel_rfl
def Ok_law09_lines_read (w : Sl → Int → Int → api_Style → Heap → Option (api_Cell × Heap)) : Prop := ∀ x0 x1 x2 x3 σ v σ', w x0 x1 x2 x3 σ = some (v, σ') → CallOK Tryd.prog T 75 [(tSl 1).av x0, (tInt .i64).av x1, (tInt .i64).av x2, t_api_Style.av x3] σ (t_api_Cell.av v) σ'
theorem fn_law09_lines_read : T.fn 75 = some Tryd.f75 := by kernel_rfl
def Ok_law09_lines_line (w : Sl → law09_Deed → Int → Heap → Option (Sl × Heap)) : Prop := ∀ x0 x1 x2 σ v σ', w x0 x1 x2 σ = some (v, σ') → CallOK Tryd.prog T 76 [(tSl 1).av x0, t_law09_Deed.av x1, (tInt .i64).av x2] σ ((tSl 6).av v) σ'
theorem fn_law09_lines_line : T.fn 76 = some Tryd.f76 := by kernel_rfl
def Ok_law09_lines_do (w : Sl → law09_Deed → Heap → Option ((Sl × Sl) × Heap)) : Prop := ∀ x0 x1 σ v σ', w x0 x1 σ = some (v, σ') → CallOK Tryd.prog T 51 [(tSl 1).av x0, t_law09_Deed.av x1] σ ((tPair (tSl 1) (tSl 1)).av v) σ'
theorem fn_law09_lines_do : T.fn 51 = some Tryd.f51 := by kernel_rfl
def Ok_law09_equal (w : Sl → Sl → Heap → Option (Bool × Heap)) : Prop := ∀ x0 x1 σ v σ', w x0 x1 σ = some (v, σ') → CallOK Tryd.prog T 52 [(tSl 1).av x0, (tSl 1).av x1] σ (tBool.av v) σ'
theorem fn_law09_equal : T.fn 52 = some Tryd.f52 := by kernel_rfl
def Ok_law09_GridRuns (w : Arr_2_Int → Sl → Sl → Heap → Option (Bool × Heap)) : Prop := ∀ x0 x1 x2 σ v σ', w x0 x1 x2 σ = some (v, σ') → CallOK Tryd.prog T 15 [t_Arr_2_Int.av x0, (tSl 6).av x1, (tSl 10).av x2] σ (tBool.av v) σ'
theorem fn_law09_GridRuns : T.fn 15 = some Tryd.f15 := by kernel_rfl
def Ok_law09_GridCopies (w : Arr_2_Int → Sl → law09_Deed → Heap → Option (Bool × Heap)) : Prop := ∀ x0 x1 x2 σ v σ', w x0 x1 x2 σ = some (v, σ') → CallOK Tryd.prog T 16 [t_Arr_2_Int.av x0, (tSl 6).av x1, t_law09_Deed.av x2] σ (tBool.av v) σ'
theorem fn_law09_GridCopies : T.fn 16 = some Tryd.f16 := by kernel_rfl
def Ok_math_bits_Mul32 (w : Int → Int → Heap → Option ((Int × Int) × Heap)) : Prop := ∀ x0 x1 σ v σ', w x0 x1 σ = some (v, σ') → CallOK Tryd.prog T 80 [(tInt .u32).av x0, (tInt .u32).av x1] σ ((tPair (tInt .u32) (tInt .u32)).av v) σ'
theorem fn_math_bits_Mul32 : T.fn 80 = some Tryd.f80 := by kernel_rfl
structure C_cell_Change where
  cell_change : api_Style → Int → Heap → Option (api_Style × Heap)
noncomputable def O_cell_Change (w : C_cell_Change) : Known := (known0).and 54 (g2 t_api_Style (tInt .i64) t_api_Style w.cell_change)
theorem K_cell_Change (w : C_cell_Change) (h_cell_change : Ok_cell_change w.cell_change) : KnownOK Tryd.prog T (O_cell_Change w) :=
  known_ok ok (known0_ok) fn_cell_change (by kernel_rfl) (g2_ok h_cell_change)
structure C_cell_paired where
  glyph_Wide : Int → Heap → Option (Bool × Heap)
noncomputable def O_cell_paired (w : C_cell_paired) : Known := (known0).and 57 (g1 (tInt .i32) tBool w.glyph_Wide)
theorem K_cell_paired (w : C_cell_paired) (h_glyph_Wide : Ok_glyph_Wide w.glyph_Wide) : KnownOK Tryd.prog T (O_cell_paired w) :=
  known_ok ok (known0_ok) fn_glyph_Wide (by kernel_rfl) (g1_ok h_glyph_Wide)
structure C_cell_Mend where
  slices_Clone : Sl → Heap → Option (Sl × Heap)
  cell_paired : Sl → Int → Heap → Option (Bool × Heap)
  glyph_Wide : Int → Heap → Option (Bool × Heap)
noncomputable def O_cell_Mend (w : C_cell_Mend) : Known := (((known0).and 55 (g1 (tSl 6) (tSl 6) w.slices_Clone)).and 56 (g2 (tSl 6) (tInt .i64) tBool w.cell_paired)).and 57 (g1 (tInt .i32) tBool w.glyph_Wide)
theorem K_cell_Mend (w : C_cell_Mend) (h_slices_Clone : Ok_slices_Clone w.slices_Clone) (h_cell_paired : Ok_cell_paired w.cell_paired) (h_glyph_Wide : Ok_glyph_Wide w.glyph_Wide) : KnownOK Tryd.prog T (O_cell_Mend w) :=
  known_ok ok (known_ok ok (known_ok ok (known0_ok) fn_slices_Clone (by kernel_rfl) (g1_ok h_slices_Clone)) fn_cell_paired (by kernel_rfl) (g2_ok h_cell_paired)) fn_glyph_Wide (by kernel_rfl) (g1_ok h_glyph_Wide)
structure C_cell_Right where
  cell_Style : api_Style → Heap → Option (Bool × Heap)
  glyph_Right : Int → Heap → Option (Bool × Heap)
noncomputable def O_cell_Right (w : C_cell_Right) : Known := ((known0).and 20 (g1 t_api_Style tBool w.cell_Style)).and 59 (g1 (tInt .i32) tBool w.glyph_Right)
theorem K_cell_Right (w : C_cell_Right) (h_cell_Style : Ok_cell_Style w.cell_Style) (h_glyph_Right : Ok_glyph_Right w.glyph_Right) : KnownOK Tryd.prog T (O_cell_Right w) :=
  known_ok ok (known_ok ok (known0_ok) fn_cell_Style (by kernel_rfl) (g1_ok h_cell_Style)) fn_glyph_Right (by kernel_rfl) (g1_ok h_glyph_Right)
structure C_law08_fit where
  cell_Change : api_Style → Sl → Heap → Option (api_Style × Heap)
  cell_Mend : Sl → Heap → Option (Sl × Heap)
  cell_Right : api_Cell → Heap → Option (Bool × Heap)
  cell_Blank : api_Style → Heap → Option (api_Cell × Heap)
noncomputable def O_law08_fit (w : C_law08_fit) : Known := ((((known0).and 18 (g2 t_api_Style (tSl 1) t_api_Style w.cell_Change)).and 24 (g1 (tSl 6) (tSl 6) w.cell_Mend)).and 30 (g1 t_api_Cell tBool w.cell_Right)).and 34 (g1 t_api_Style t_api_Cell w.cell_Blank)
theorem K_law08_fit (w : C_law08_fit) (h_cell_Change : Ok_cell_Change w.cell_Change) (h_cell_Mend : Ok_cell_Mend w.cell_Mend) (h_cell_Right : Ok_cell_Right w.cell_Right) (h_cell_Blank : Ok_cell_Blank w.cell_Blank) : KnownOK Tryd.prog T (O_law08_fit w) :=
  known_ok ok (known_ok ok (known_ok ok (known_ok ok (known0_ok) fn_cell_Change (by kernel_rfl) (g2_ok h_cell_Change)) fn_cell_Mend (by kernel_rfl) (g1_ok h_cell_Mend)) fn_cell_Right (by kernel_rfl) (g1_ok h_cell_Right)) fn_cell_Blank (by kernel_rfl) (g1_ok h_cell_Blank)
structure C_law08_CellChanges where
  law08_fit : Heap → Option (Bool × Heap)
  cell_Change : api_Style → Sl → Heap → Option (api_Style × Heap)
noncomputable def O_law08_CellChanges (w : C_law08_CellChanges) : Known := ((known0).and 17 (g0  tBool w.law08_fit)).and 18 (g2 t_api_Style (tSl 1) t_api_Style w.cell_Change)
theorem K_law08_CellChanges (w : C_law08_CellChanges) (h_law08_fit : Ok_law08_fit w.law08_fit) (h_cell_Change : Ok_cell_Change w.cell_Change) : KnownOK Tryd.prog T (O_law08_CellChanges w) :=
  known_ok ok (known_ok ok (known0_ok) fn_law08_fit (by kernel_rfl) (g0_ok h_law08_fit)) fn_cell_Change (by kernel_rfl) (g2_ok h_cell_Change)
structure C_law08_CellStyles where
  law08_fit : Heap → Option (Bool × Heap)
  cell_Change : api_Style → Sl → Heap → Option (api_Style × Heap)
  ref08_Style : api_Style → Heap → Option (Bool × Heap)
  cell_Style : api_Style → Heap → Option (Bool × Heap)
  ref08_Change : api_Style → Int → Heap → Option (api_Style × Heap)
  cell_Params : api_Style → Heap → Option (Sl × Heap)
noncomputable def O_law08_CellStyles (w : C_law08_CellStyles) : Known := ((((((known0).and 17 (g0  tBool w.law08_fit)).and 18 (g2 t_api_Style (tSl 1) t_api_Style w.cell_Change)).and 19 (g1 t_api_Style tBool w.ref08_Style)).and 20 (g1 t_api_Style tBool w.cell_Style)).and 21 (g2 t_api_Style (tInt .i64) t_api_Style w.ref08_Change)).and 22 (g1 t_api_Style (tSl 1) w.cell_Params)
theorem K_law08_CellStyles (w : C_law08_CellStyles) (h_law08_fit : Ok_law08_fit w.law08_fit) (h_cell_Change : Ok_cell_Change w.cell_Change) (h_ref08_Style : Ok_ref08_Style w.ref08_Style) (h_cell_Style : Ok_cell_Style w.cell_Style) (h_ref08_Change : Ok_ref08_Change w.ref08_Change) (h_cell_Params : Ok_cell_Params w.cell_Params) : KnownOK Tryd.prog T (O_law08_CellStyles w) :=
  known_ok ok (known_ok ok (known_ok ok (known_ok ok (known_ok ok (known_ok ok (known0_ok) fn_law08_fit (by kernel_rfl) (g0_ok h_law08_fit)) fn_cell_Change (by kernel_rfl) (g2_ok h_cell_Change)) fn_ref08_Style (by kernel_rfl) (g1_ok h_ref08_Style)) fn_cell_Style (by kernel_rfl) (g1_ok h_cell_Style)) fn_ref08_Change (by kernel_rfl) (g2_ok h_ref08_Change)) fn_cell_Params (by kernel_rfl) (g1_ok h_cell_Params)
structure C_ref07_Right where
  ref07_among : Int → Int → Int → Heap → Option (Bool × Heap)
noncomputable def O_ref07_Right (w : C_ref07_Right) : Known := (known0).and 58 (g3 (tInt .i32) (tInt .i32) (tInt .i32) tBool w.ref07_among)
theorem K_ref07_Right (w : C_ref07_Right) (h_ref07_among : Ok_ref07_among w.ref07_among) : KnownOK Tryd.prog T (O_ref07_Right w) :=
  known_ok ok (known0_ok) fn_ref07_among (by kernel_rfl) (g3_ok h_ref07_among)
structure C_law08_Tame where
  ref08_Style : api_Style → Heap → Option (Bool × Heap)
  ref07_Right : Int → Heap → Option (Bool × Heap)
noncomputable def O_law08_Tame (w : C_law08_Tame) : Known := ((known0).and 19 (g1 t_api_Style tBool w.ref08_Style)).and 29 (g1 (tInt .i32) tBool w.ref07_Right)
theorem K_law08_Tame (w : C_law08_Tame) (h_ref08_Style : Ok_ref08_Style w.ref08_Style) (h_ref07_Right : Ok_ref07_Right w.ref07_Right) : KnownOK Tryd.prog T (O_law08_Tame w) :=
  known_ok ok (known_ok ok (known0_ok) fn_ref08_Style (by kernel_rfl) (g1_ok h_ref08_Style)) fn_ref07_Right (by kernel_rfl) (g1_ok h_ref07_Right)
structure C_ref07_Wide where
  ref07_among : Int → Int → Int → Heap → Option (Bool × Heap)
noncomputable def O_ref07_Wide (w : C_ref07_Wide) : Known := (known0).and 58 (g3 (tInt .i32) (tInt .i32) (tInt .i32) tBool w.ref07_among)
theorem K_ref07_Wide (w : C_ref07_Wide) (h_ref07_among : Ok_ref07_among w.ref07_among) : KnownOK Tryd.prog T (O_ref07_Wide w) :=
  known_ok ok (known0_ok) fn_ref07_among (by kernel_rfl) (g3_ok h_ref07_among)
structure C_ref08_Mend where
  ref07_Wide : Int → Heap → Option (Bool × Heap)
noncomputable def O_ref08_Mend (w : C_ref08_Mend) : Known := (known0).and 28 (g1 (tInt .i32) tBool w.ref07_Wide)
theorem K_ref08_Mend (w : C_ref08_Mend) (h_ref07_Wide : Ok_ref07_Wide w.ref07_Wide) : KnownOK Tryd.prog T (O_ref08_Mend w) :=
  known_ok ok (known0_ok) fn_ref07_Wide (by kernel_rfl) (g1_ok h_ref07_Wide)
structure C_cell_Whole where
  cell_Right : api_Cell → Heap → Option (Bool × Heap)
  cell_paired : Sl → Int → Heap → Option (Bool × Heap)
  glyph_Wide : Int → Heap → Option (Bool × Heap)
noncomputable def O_cell_Whole (w : C_cell_Whole) : Known := (((known0).and 30 (g1 t_api_Cell tBool w.cell_Right)).and 56 (g2 (tSl 6) (tInt .i64) tBool w.cell_paired)).and 57 (g1 (tInt .i32) tBool w.glyph_Wide)
theorem K_cell_Whole (w : C_cell_Whole) (h_cell_Right : Ok_cell_Right w.cell_Right) (h_cell_paired : Ok_cell_paired w.cell_paired) (h_glyph_Wide : Ok_glyph_Wide w.glyph_Wide) : KnownOK Tryd.prog T (O_cell_Whole w) :=
  known_ok ok (known_ok ok (known_ok ok (known0_ok) fn_cell_Right (by kernel_rfl) (g1_ok h_cell_Right)) fn_cell_paired (by kernel_rfl) (g2_ok h_cell_paired)) fn_glyph_Wide (by kernel_rfl) (g1_ok h_glyph_Wide)
structure C_law08_CellMends where
  law08_fit : Heap → Option (Bool × Heap)
  law08_Tame : Sl → Heap → Option (Sl × Heap)
  cell_Mend : Sl → Heap → Option (Sl × Heap)
  ref08_Mend : Sl → Heap → Option (Sl × Heap)
  law08_Same : Sl → Sl → Heap → Option (Bool × Heap)
  cell_Whole : Sl → Heap → Option (Bool × Heap)
noncomputable def O_law08_CellMends (w : C_law08_CellMends) : Known := ((((((known0).and 17 (g0  tBool w.law08_fit)).and 23 (g1 (tSl 6) (tSl 6) w.law08_Tame)).and 24 (g1 (tSl 6) (tSl 6) w.cell_Mend)).and 25 (g1 (tSl 6) (tSl 6) w.ref08_Mend)).and 26 (g2 (tSl 6) (tSl 6) tBool w.law08_Same)).and 27 (g1 (tSl 6) tBool w.cell_Whole)
theorem K_law08_CellMends (w : C_law08_CellMends) (h_law08_fit : Ok_law08_fit w.law08_fit) (h_law08_Tame : Ok_law08_Tame w.law08_Tame) (h_cell_Mend : Ok_cell_Mend w.cell_Mend) (h_ref08_Mend : Ok_ref08_Mend w.ref08_Mend) (h_law08_Same : Ok_law08_Same w.law08_Same) (h_cell_Whole : Ok_cell_Whole w.cell_Whole) : KnownOK Tryd.prog T (O_law08_CellMends w) :=
  known_ok ok (known_ok ok (known_ok ok (known_ok ok (known_ok ok (known_ok ok (known0_ok) fn_law08_fit (by kernel_rfl) (g0_ok h_law08_fit)) fn_law08_Tame (by kernel_rfl) (g1_ok h_law08_Tame)) fn_cell_Mend (by kernel_rfl) (g1_ok h_cell_Mend)) fn_ref08_Mend (by kernel_rfl) (g1_ok h_ref08_Mend)) fn_law08_Same (by kernel_rfl) (g2_ok h_law08_Same)) fn_cell_Whole (by kernel_rfl) (g1_ok h_cell_Whole)
structure C_law08_CellWholes where
  law08_fit : Heap → Option (Bool × Heap)
  ref08_Style : api_Style → Heap → Option (Bool × Heap)
  cell_Whole : Sl → Heap → Option (Bool × Heap)
  ref07_Wide : Int → Heap → Option (Bool × Heap)
  ref07_Right : Int → Heap → Option (Bool × Heap)
noncomputable def O_law08_CellWholes (w : C_law08_CellWholes) : Known := (((((known0).and 17 (g0  tBool w.law08_fit)).and 19 (g1 t_api_Style tBool w.ref08_Style)).and 27 (g1 (tSl 6) tBool w.cell_Whole)).and 28 (g1 (tInt .i32) tBool w.ref07_Wide)).and 29 (g1 (tInt .i32) tBool w.ref07_Right)
theorem K_law08_CellWholes (w : C_law08_CellWholes) (h_law08_fit : Ok_law08_fit w.law08_fit) (h_ref08_Style : Ok_ref08_Style w.ref08_Style) (h_cell_Whole : Ok_cell_Whole w.cell_Whole) (h_ref07_Wide : Ok_ref07_Wide w.ref07_Wide) (h_ref07_Right : Ok_ref07_Right w.ref07_Right) : KnownOK Tryd.prog T (O_law08_CellWholes w) :=
  known_ok ok (known_ok ok (known_ok ok (known_ok ok (known_ok ok (known0_ok) fn_law08_fit (by kernel_rfl) (g0_ok h_law08_fit)) fn_ref08_Style (by kernel_rfl) (g1_ok h_ref08_Style)) fn_cell_Whole (by kernel_rfl) (g1_ok h_cell_Whole)) fn_ref07_Wide (by kernel_rfl) (g1_ok h_ref07_Wide)) fn_ref07_Right (by kernel_rfl) (g1_ok h_ref07_Right)
structure C_cell_PutStyle where
  vary_Put : Sl → Sl → Heap → Option (Sl × Heap)
  cell_bits : api_Style → Heap → Option (Int × Heap)
noncomputable def O_cell_PutStyle (w : C_cell_PutStyle) : Known := ((known0).and 60 (g2 (tSl 1) (tSl 1) (tSl 1) w.vary_Put)).and 61 (g1 t_api_Style (tInt .u64) w.cell_bits)
theorem K_cell_PutStyle (w : C_cell_PutStyle) (h_vary_Put : Ok_vary_Put w.vary_Put) (h_cell_bits : Ok_cell_bits w.cell_bits) : KnownOK Tryd.prog T (O_cell_PutStyle w) :=
  known_ok ok (known_ok ok (known0_ok) fn_vary_Put (by kernel_rfl) (g2_ok h_vary_Put)) fn_cell_bits (by kernel_rfl) (g1_ok h_cell_bits)
structure C_vary_Reader_Num where
  vary_Take : Sl → Heap → Option ((Int × Int) × Heap)
noncomputable def O_vary_Reader_Num (w : C_vary_Reader_Num) : Known := (known0).and 77 (g1 (tSl 1) (tPair (tInt .u64) (tInt .i64)) w.vary_Take)
theorem K_vary_Reader_Num (w : C_vary_Reader_Num) (h_vary_Take : Ok_vary_Take w.vary_Take) : KnownOK Tryd.prog T (O_vary_Reader_Num w) :=
  known_ok ok (known0_ok) fn_vary_Take (by kernel_rfl) (g1_ok h_vary_Take)
structure C_cell_TakeStyle where
  cell_Style : api_Style → Heap → Option (Bool × Heap)
  vary_Reader_Num : Pt → Int → Heap → Option (Int × Heap)
  vary_Reader_Good : Pt → Heap → Option (Bool × Heap)
noncomputable def O_cell_TakeStyle (w : C_cell_TakeStyle) : Known := (((known0).and 20 (g1 t_api_Style tBool w.cell_Style)).and 62 (g2 tPtr (tInt .i64) (tInt .i64) w.vary_Reader_Num)).and 63 (g1 tPtr tBool w.vary_Reader_Good)
theorem K_cell_TakeStyle (w : C_cell_TakeStyle) (h_cell_Style : Ok_cell_Style w.cell_Style) (h_vary_Reader_Num : Ok_vary_Reader_Num w.vary_Reader_Num) (h_vary_Reader_Good : Ok_vary_Reader_Good w.vary_Reader_Good) : KnownOK Tryd.prog T (O_cell_TakeStyle w) :=
  known_ok ok (known_ok ok (known_ok ok (known0_ok) fn_cell_Style (by kernel_rfl) (g1_ok h_cell_Style)) fn_vary_Reader_Num (by kernel_rfl) (g2_ok h_vary_Reader_Num)) fn_vary_Reader_Good (by kernel_rfl) (g1_ok h_vary_Reader_Good)
structure C_law08_CellRights where
  law08_fit : Heap → Option (Bool × Heap)
  ref08_Style : api_Style → Heap → Option (Bool × Heap)
  cell_Style : api_Style → Heap → Option (Bool × Heap)
  ref07_Right : Int → Heap → Option (Bool × Heap)
  cell_Right : api_Cell → Heap → Option (Bool × Heap)
  vary_Of : Sl → Heap → Option (Pt × Heap)
  cell_PutStyle : Sl → api_Style → Heap → Option (Sl × Heap)
  cell_TakeStyle : Pt → Heap → Option ((api_Style × Bool) × Heap)
  cell_Blank : api_Style → Heap → Option (api_Cell × Heap)
noncomputable def O_law08_CellRights (w : C_law08_CellRights) : Known := (((((((((known0).and 17 (g0  tBool w.law08_fit)).and 19 (g1 t_api_Style tBool w.ref08_Style)).and 20 (g1 t_api_Style tBool w.cell_Style)).and 29 (g1 (tInt .i32) tBool w.ref07_Right)).and 30 (g1 t_api_Cell tBool w.cell_Right)).and 31 (g1 (tSl 1) tPtr w.vary_Of)).and 32 (g2 (tSl 1) t_api_Style (tSl 1) w.cell_PutStyle)).and 33 (g1 tPtr (tPair t_api_Style tBool) w.cell_TakeStyle)).and 34 (g1 t_api_Style t_api_Cell w.cell_Blank)
theorem K_law08_CellRights (w : C_law08_CellRights) (h_law08_fit : Ok_law08_fit w.law08_fit) (h_ref08_Style : Ok_ref08_Style w.ref08_Style) (h_cell_Style : Ok_cell_Style w.cell_Style) (h_ref07_Right : Ok_ref07_Right w.ref07_Right) (h_cell_Right : Ok_cell_Right w.cell_Right) (h_vary_Of : Ok_vary_Of w.vary_Of) (h_cell_PutStyle : Ok_cell_PutStyle w.cell_PutStyle) (h_cell_TakeStyle : Ok_cell_TakeStyle w.cell_TakeStyle) (h_cell_Blank : Ok_cell_Blank w.cell_Blank) : KnownOK Tryd.prog T (O_law08_CellRights w) :=
  known_ok ok (known_ok ok (known_ok ok (known_ok ok (known_ok ok (known_ok ok (known_ok ok (known_ok ok (known_ok ok (known0_ok) fn_law08_fit (by kernel_rfl) (g0_ok h_law08_fit)) fn_ref08_Style (by kernel_rfl) (g1_ok h_ref08_Style)) fn_cell_Style (by kernel_rfl) (g1_ok h_cell_Style)) fn_ref07_Right (by kernel_rfl) (g1_ok h_ref07_Right)) fn_cell_Right (by kernel_rfl) (g1_ok h_cell_Right)) fn_vary_Of (by kernel_rfl) (g1_ok h_vary_Of)) fn_cell_PutStyle (by kernel_rfl) (g2_ok h_cell_PutStyle)) fn_cell_TakeStyle (by kernel_rfl) (g1_ok h_cell_TakeStyle)) fn_cell_Blank (by kernel_rfl) (g1_ok h_cell_Blank)
structure C_grid_Grid_Text where
  grid_Grid_there : Pt → Int → Int → Heap → Option (Bool × Heap)
noncomputable def O_grid_Grid_Text (w : C_grid_Grid_Text) : Known := (known0).and 65 (g3 tPtr (tInt .i64) (tInt .i64) tBool w.grid_Grid_there)
theorem K_grid_Grid_Text (w : C_grid_Grid_Text) (h_grid_Grid_there : Ok_grid_Grid_there w.grid_Grid_there) : KnownOK Tryd.prog T (O_grid_Grid_Text w) :=
  known_ok ok (known0_ok) fn_grid_Grid_there (by kernel_rfl) (g3_ok h_grid_Grid_there)
structure C_math_bits_Mul where
  math_bits_Mul64 : Int → Int → Heap → Option ((Int × Int) × Heap)
noncomputable def O_math_bits_Mul (w : C_math_bits_Mul) : Known := (known0).and 81 (g2 (tInt .u64) (tInt .u64) (tPair (tInt .u64) (tInt .u64)) w.math_bits_Mul64)
theorem K_math_bits_Mul (w : C_math_bits_Mul) (h_math_bits_Mul64 : Ok_math_bits_Mul64 w.math_bits_Mul64) : KnownOK Tryd.prog T (O_math_bits_Mul w) :=
  known_ok ok (known0_ok) fn_math_bits_Mul64 (by kernel_rfl) (g2_ok h_math_bits_Mul64)
structure C_slices_Repeat where
  math_bits_Mul : Int → Int → Heap → Option ((Int × Int) × Heap)
noncomputable def O_slices_Repeat (w : C_slices_Repeat) : Known := (known0).and 79 (g2 (tInt .u64) (tInt .u64) (tPair (tInt .u64) (tInt .u64)) w.math_bits_Mul)
theorem K_slices_Repeat (w : C_slices_Repeat) (h_math_bits_Mul : Ok_math_bits_Mul w.math_bits_Mul) : KnownOK Tryd.prog T (O_slices_Repeat w) :=
  known_ok ok (known0_ok) fn_math_bits_Mul (by kernel_rfl) (g2_ok h_math_bits_Mul)
structure C_grid_blank where
  cell_Blank : api_Style → Heap → Option (api_Cell × Heap)
  slices_Repeat : Sl → Int → Heap → Option (Sl × Heap)
noncomputable def O_grid_blank (w : C_grid_blank) : Known := ((known0).and 34 (g1 t_api_Style t_api_Cell w.cell_Blank)).and 78 (g2 (tSl 6) (tInt .i64) (tSl 6) w.slices_Repeat)
theorem K_grid_blank (w : C_grid_blank) (h_cell_Blank : Ok_cell_Blank w.cell_Blank) (h_slices_Repeat : Ok_slices_Repeat w.slices_Repeat) : KnownOK Tryd.prog T (O_grid_blank w) :=
  known_ok ok (known_ok ok (known0_ok) fn_cell_Blank (by kernel_rfl) (g1_ok h_cell_Blank)) fn_slices_Repeat (by kernel_rfl) (g2_ok h_slices_Repeat)
structure C_grid_Grid_Up where
  grid_Grid_some : Pt → Int → Int → Int → Heap → Option ((Int × Int × Int) × Heap)
  grid_blank : Int → api_Style → Heap → Option (Sl × Heap)
noncomputable def O_grid_Grid_Up (w : C_grid_Grid_Up) : Known := ((known0).and 66 (g4 tPtr (tInt .i64) (tInt .i64) (tInt .i64) (tTrip (tInt .i64) (tInt .i64) (tInt .i64)) w.grid_Grid_some)).and 67 (g2 (tInt .i64) t_api_Style (tSl 6) w.grid_blank)
theorem K_grid_Grid_Up (w : C_grid_Grid_Up) (h_grid_Grid_some : Ok_grid_Grid_some w.grid_Grid_some) (h_grid_blank : Ok_grid_blank w.grid_blank) : KnownOK Tryd.prog T (O_grid_Grid_Up w) :=
  known_ok ok (known_ok ok (known0_ok) fn_grid_Grid_some (by kernel_rfl) (g4_ok h_grid_Grid_some)) fn_grid_blank (by kernel_rfl) (g2_ok h_grid_blank)
structure C_grid_Grid_At where
  grid_Grid_there : Pt → Int → Int → Heap → Option (Bool × Heap)
noncomputable def O_grid_Grid_At (w : C_grid_Grid_At) : Known := (known0).and 65 (g3 tPtr (tInt .i64) (tInt .i64) tBool w.grid_Grid_there)
theorem K_grid_Grid_At (w : C_grid_Grid_At) (h_grid_Grid_there : Ok_grid_Grid_there w.grid_Grid_there) : KnownOK Tryd.prog T (O_grid_Grid_At w) :=
  known_ok ok (known0_ok) fn_grid_Grid_there (by kernel_rfl) (g3_ok h_grid_Grid_there)
structure C_grid_New where
  grid_blank : Int → api_Style → Heap → Option (Sl × Heap)
  grid_bring : Int → Heap → Option (Int × Heap)
noncomputable def O_grid_New (w : C_grid_New) : Known := ((known0).and 67 (g2 (tInt .i64) t_api_Style (tSl 6) w.grid_blank)).and 68 (g1 (tInt .i64) (tInt .i64) w.grid_bring)
theorem K_grid_New (w : C_grid_New) (h_grid_blank : Ok_grid_blank w.grid_blank) (h_grid_bring : Ok_grid_bring w.grid_bring) : KnownOK Tryd.prog T (O_grid_New w) :=
  known_ok ok (known_ok ok (known0_ok) fn_grid_blank (by kernel_rfl) (g2_ok h_grid_blank)) fn_grid_bring (by kernel_rfl) (g1_ok h_grid_bring)
structure C_grid_Grid_Put where
  cell_Mend : Sl → Heap → Option (Sl × Heap)
  cell_Right : api_Cell → Heap → Option (Bool × Heap)
  glyph_Wide : Int → Heap → Option (Bool × Heap)
  grid_Grid_there : Pt → Int → Int → Heap → Option (Bool × Heap)
noncomputable def O_grid_Grid_Put (w : C_grid_Grid_Put) : Known := ((((known0).and 24 (g1 (tSl 6) (tSl 6) w.cell_Mend)).and 30 (g1 t_api_Cell tBool w.cell_Right)).and 57 (g1 (tInt .i32) tBool w.glyph_Wide)).and 65 (g3 tPtr (tInt .i64) (tInt .i64) tBool w.grid_Grid_there)
theorem K_grid_Grid_Put (w : C_grid_Grid_Put) (h_cell_Mend : Ok_cell_Mend w.cell_Mend) (h_cell_Right : Ok_cell_Right w.cell_Right) (h_glyph_Wide : Ok_glyph_Wide w.glyph_Wide) (h_grid_Grid_there : Ok_grid_Grid_there w.grid_Grid_there) : KnownOK Tryd.prog T (O_grid_Grid_Put w) :=
  known_ok ok (known_ok ok (known_ok ok (known_ok ok (known0_ok) fn_cell_Mend (by kernel_rfl) (g1_ok h_cell_Mend)) fn_cell_Right (by kernel_rfl) (g1_ok h_cell_Right)) fn_glyph_Wide (by kernel_rfl) (g1_ok h_glyph_Wide)) fn_grid_Grid_there (by kernel_rfl) (g3_ok h_grid_Grid_there)
structure C_law09_fit where
  cell_Right : api_Cell → Heap → Option (Bool × Heap)
  grid_Grid_Text : Pt → Int → Heap → Option (ByteArray × Heap)
  grid_Grid_Up : Pt → Int → Int → Int → api_Style → Heap → Option (Sl × Heap)
  grid_Grid_At : Pt → Int → Int → Heap → Option (api_Cell × Heap)
  grid_New : Int → Int → Heap → Option (Pt × Heap)
  grid_Grid_Put : Pt → Int → Int → api_Cell → Heap → Option (Unit × Heap)
noncomputable def O_law09_fit (w : C_law09_fit) : Known := ((((((known0).and 30 (g1 t_api_Cell tBool w.cell_Right)).and 37 (g2 tPtr (tInt .i64) tStr w.grid_Grid_Text)).and 40 (g5 tPtr (tInt .i64) (tInt .i64) (tInt .i64) t_api_Style (tSl 1) w.grid_Grid_Up)).and 48 (g3 tPtr (tInt .i64) (tInt .i64) t_api_Cell w.grid_Grid_At)).and 53 (g2 (tInt .i64) (tInt .i64) tPtr w.grid_New)).and 64 (g4 tPtr (tInt .i64) (tInt .i64) t_api_Cell tVoid w.grid_Grid_Put)
theorem K_law09_fit (w : C_law09_fit) (h_cell_Right : Ok_cell_Right w.cell_Right) (h_grid_Grid_Text : Ok_grid_Grid_Text w.grid_Grid_Text) (h_grid_Grid_Up : Ok_grid_Grid_Up w.grid_Grid_Up) (h_grid_Grid_At : Ok_grid_Grid_At w.grid_Grid_At) (h_grid_New : Ok_grid_New w.grid_New) (h_grid_Grid_Put : Ok_grid_Grid_Put w.grid_Grid_Put) : KnownOK Tryd.prog T (O_law09_fit w) :=
  known_ok ok (known_ok ok (known_ok ok (known_ok ok (known_ok ok (known_ok ok (known0_ok) fn_cell_Right (by kernel_rfl) (g1_ok h_cell_Right)) fn_grid_Grid_Text (by kernel_rfl) (g2_ok h_grid_Grid_Text)) fn_grid_Grid_Up (by kernel_rfl) (g5_ok h_grid_Grid_Up)) fn_grid_Grid_At (by kernel_rfl) (g3_ok h_grid_Grid_At)) fn_grid_New (by kernel_rfl) (g2_ok h_grid_New)) fn_grid_Grid_Put (by kernel_rfl) (g4_ok h_grid_Grid_Put)
structure C_law09_Fill where
  law08_Tame : Sl → Heap → Option (Sl × Heap)
  ref07_Wide : Int → Heap → Option (Bool × Heap)
  grid_New : Int → Int → Heap → Option (Pt × Heap)
  grid_Grid_Put : Pt → Int → Int → api_Cell → Heap → Option (Unit × Heap)
noncomputable def O_law09_Fill (w : C_law09_Fill) : Known := ((((known0).and 23 (g1 (tSl 6) (tSl 6) w.law08_Tame)).and 28 (g1 (tInt .i32) tBool w.ref07_Wide)).and 53 (g2 (tInt .i64) (tInt .i64) tPtr w.grid_New)).and 64 (g4 tPtr (tInt .i64) (tInt .i64) t_api_Cell tVoid w.grid_Grid_Put)
theorem K_law09_Fill (w : C_law09_Fill) (h_law08_Tame : Ok_law08_Tame w.law08_Tame) (h_ref07_Wide : Ok_ref07_Wide w.ref07_Wide) (h_grid_New : Ok_grid_New w.grid_New) (h_grid_Grid_Put : Ok_grid_Grid_Put w.grid_Grid_Put) : KnownOK Tryd.prog T (O_law09_Fill w) :=
  known_ok ok (known_ok ok (known_ok ok (known_ok ok (known0_ok) fn_law08_Tame (by kernel_rfl) (g1_ok h_law08_Tame)) fn_ref07_Wide (by kernel_rfl) (g1_ok h_ref07_Wide)) fn_grid_New (by kernel_rfl) (g2_ok h_grid_New)) fn_grid_Grid_Put (by kernel_rfl) (g4_ok h_grid_Grid_Put)
structure C_law09_GridTexts where
  law09_fit : Heap → Option (Bool × Heap)
  law09_Fill : Int → Int → Sl → Heap → Option (Pt × Heap)
  grid_Grid_Text : Pt → Int → Heap → Option (ByteArray × Heap)
noncomputable def O_law09_GridTexts (w : C_law09_GridTexts) : Known := (((known0).and 35 (g0  tBool w.law09_fit)).and 36 (g3 (tInt .i64) (tInt .i64) (tSl 6) tPtr w.law09_Fill)).and 37 (g2 tPtr (tInt .i64) tStr w.grid_Grid_Text)
theorem K_law09_GridTexts (w : C_law09_GridTexts) (h_law09_fit : Ok_law09_fit w.law09_fit) (h_law09_Fill : Ok_law09_Fill w.law09_Fill) (h_grid_Grid_Text : Ok_grid_Grid_Text w.grid_Grid_Text) : KnownOK Tryd.prog T (O_law09_GridTexts w) :=
  known_ok ok (known_ok ok (known_ok ok (known0_ok) fn_law09_fit (by kernel_rfl) (g0_ok h_law09_fit)) fn_law09_Fill (by kernel_rfl) (g3_ok h_law09_Fill)) fn_grid_Grid_Text (by kernel_rfl) (g2_ok h_grid_Grid_Text)
structure C_grid_Grid_Copy where
  slices_Clone : Sl → Heap → Option (Sl × Heap)
noncomputable def O_grid_Grid_Copy (w : C_grid_Grid_Copy) : Known := (known0).and 55 (g1 (tSl 6) (tSl 6) w.slices_Clone)
theorem K_grid_Grid_Copy (w : C_grid_Grid_Copy) (h_slices_Clone : Ok_slices_Clone w.slices_Clone) : KnownOK Tryd.prog T (O_grid_Grid_Copy w) :=
  known_ok ok (known0_ok) fn_slices_Clone (by kernel_rfl) (g1_ok h_slices_Clone)
structure C_grid_Grid_Down where
  grid_Grid_some : Pt → Int → Int → Int → Heap → Option ((Int × Int × Int) × Heap)
  grid_blank : Int → api_Style → Heap → Option (Sl × Heap)
noncomputable def O_grid_Grid_Down (w : C_grid_Grid_Down) : Known := ((known0).and 66 (g4 tPtr (tInt .i64) (tInt .i64) (tInt .i64) (tTrip (tInt .i64) (tInt .i64) (tInt .i64)) w.grid_Grid_some)).and 67 (g2 (tInt .i64) t_api_Style (tSl 6) w.grid_blank)
theorem K_grid_Grid_Down (w : C_grid_Grid_Down) (h_grid_Grid_some : Ok_grid_Grid_some w.grid_Grid_some) (h_grid_blank : Ok_grid_blank w.grid_blank) : KnownOK Tryd.prog T (O_grid_Grid_Down w) :=
  known_ok ok (known_ok ok (known0_ok) fn_grid_Grid_some (by kernel_rfl) (g4_ok h_grid_Grid_some)) fn_grid_blank (by kernel_rfl) (g2_ok h_grid_blank)
structure C_law09_GridLines where
  law08_Same : Sl → Sl → Heap → Option (Bool × Heap)
  law09_fit : Heap → Option (Bool × Heap)
  law09_Fill : Int → Int → Sl → Heap → Option (Pt × Heap)
  grid_Grid_Text : Pt → Int → Heap → Option (ByteArray × Heap)
  grid_Grid_Copy : Pt → Heap → Option (Pt × Heap)
  law09_within : Int → Int → Int → Heap → Option (Int × Heap)
  grid_Grid_Up : Pt → Int → Int → Int → api_Style → Heap → Option (Sl × Heap)
  grid_Grid_Down : Pt → Int → Int → Int → api_Style → Heap → Option (Unit × Heap)
noncomputable def O_law09_GridLines (w : C_law09_GridLines) : Known := ((((((((known0).and 26 (g2 (tSl 6) (tSl 6) tBool w.law08_Same)).and 35 (g0  tBool w.law09_fit)).and 36 (g3 (tInt .i64) (tInt .i64) (tSl 6) tPtr w.law09_Fill)).and 37 (g2 tPtr (tInt .i64) tStr w.grid_Grid_Text)).and 38 (g1 tPtr tPtr w.grid_Grid_Copy)).and 39 (g3 (tInt .i64) (tInt .i64) (tInt .i64) (tInt .i64) w.law09_within)).and 40 (g5 tPtr (tInt .i64) (tInt .i64) (tInt .i64) t_api_Style (tSl 1) w.grid_Grid_Up)).and 41 (g5 tPtr (tInt .i64) (tInt .i64) (tInt .i64) t_api_Style tVoid w.grid_Grid_Down)
theorem K_law09_GridLines (w : C_law09_GridLines) (h_law08_Same : Ok_law08_Same w.law08_Same) (h_law09_fit : Ok_law09_fit w.law09_fit) (h_law09_Fill : Ok_law09_Fill w.law09_Fill) (h_grid_Grid_Text : Ok_grid_Grid_Text w.grid_Grid_Text) (h_grid_Grid_Copy : Ok_grid_Grid_Copy w.grid_Grid_Copy) (h_law09_within : Ok_law09_within w.law09_within) (h_grid_Grid_Up : Ok_grid_Grid_Up w.grid_Grid_Up) (h_grid_Grid_Down : Ok_grid_Grid_Down w.grid_Grid_Down) : KnownOK Tryd.prog T (O_law09_GridLines w) :=
  known_ok ok (known_ok ok (known_ok ok (known_ok ok (known_ok ok (known_ok ok (known_ok ok (known_ok ok (known0_ok) fn_law08_Same (by kernel_rfl) (g2_ok h_law08_Same)) fn_law09_fit (by kernel_rfl) (g0_ok h_law09_fit)) fn_law09_Fill (by kernel_rfl) (g3_ok h_law09_Fill)) fn_grid_Grid_Text (by kernel_rfl) (g2_ok h_grid_Grid_Text)) fn_grid_Grid_Copy (by kernel_rfl) (g1_ok h_grid_Grid_Copy)) fn_law09_within (by kernel_rfl) (g3_ok h_law09_within)) fn_grid_Grid_Up (by kernel_rfl) (g5_ok h_grid_Grid_Up)) fn_grid_Grid_Down (by kernel_rfl) (g5_ok h_grid_Grid_Down)
structure C_cell_TakeLine where
  cell_Whole : Sl → Heap → Option (Bool × Heap)
  cell_TakeStyle : Pt → Heap → Option ((api_Style × Bool) × Heap)
  vary_Reader_Num : Pt → Int → Heap → Option (Int × Heap)
noncomputable def O_cell_TakeLine (w : C_cell_TakeLine) : Known := (((known0).and 27 (g1 (tSl 6) tBool w.cell_Whole)).and 33 (g1 tPtr (tPair t_api_Style tBool) w.cell_TakeStyle)).and 62 (g2 tPtr (tInt .i64) (tInt .i64) w.vary_Reader_Num)
theorem K_cell_TakeLine (w : C_cell_TakeLine) (h_cell_Whole : Ok_cell_Whole w.cell_Whole) (h_cell_TakeStyle : Ok_cell_TakeStyle w.cell_TakeStyle) (h_vary_Reader_Num : Ok_vary_Reader_Num w.vary_Reader_Num) : KnownOK Tryd.prog T (O_cell_TakeLine w) :=
  known_ok ok (known_ok ok (known_ok ok (known0_ok) fn_cell_Whole (by kernel_rfl) (g1_ok h_cell_Whole)) fn_cell_TakeStyle (by kernel_rfl) (g1_ok h_cell_TakeStyle)) fn_vary_Reader_Num (by kernel_rfl) (g2_ok h_vary_Reader_Num)
structure C_cell_PutLine where
  cell_PutStyle : Sl → api_Style → Heap → Option (Sl × Heap)
  vary_Put : Sl → Sl → Heap → Option (Sl × Heap)
noncomputable def O_cell_PutLine (w : C_cell_PutLine) : Known := ((known0).and 32 (g2 (tSl 1) t_api_Style (tSl 1) w.cell_PutStyle)).and 60 (g2 (tSl 1) (tSl 1) (tSl 1) w.vary_Put)
theorem K_cell_PutLine (w : C_cell_PutLine) (h_cell_PutStyle : Ok_cell_PutStyle w.cell_PutStyle) (h_vary_Put : Ok_vary_Put w.vary_Put) : KnownOK Tryd.prog T (O_cell_PutLine w) :=
  known_ok ok (known_ok ok (known0_ok) fn_cell_PutStyle (by kernel_rfl) (g2_ok h_cell_PutStyle)) fn_vary_Put (by kernel_rfl) (g2_ok h_vary_Put)
structure C_law08_CellAny where
  law08_fit : Heap → Option (Bool × Heap)
  cell_Whole : Sl → Heap → Option (Bool × Heap)
  vary_Of : Sl → Heap → Option (Pt × Heap)
  cell_TakeLine : Pt → Int → Heap → Option ((Sl × Bool) × Heap)
  cell_PutLine : Sl → Sl → Heap → Option (Sl × Heap)
noncomputable def O_law08_CellAny (w : C_law08_CellAny) : Known := (((((known0).and 17 (g0  tBool w.law08_fit)).and 27 (g1 (tSl 6) tBool w.cell_Whole)).and 31 (g1 (tSl 1) tPtr w.vary_Of)).and 42 (g2 tPtr (tInt .i64) (tPair (tSl 6) tBool) w.cell_TakeLine)).and 43 (g2 (tSl 1) (tSl 6) (tSl 1) w.cell_PutLine)
theorem K_law08_CellAny (w : C_law08_CellAny) (h_law08_fit : Ok_law08_fit w.law08_fit) (h_cell_Whole : Ok_cell_Whole w.cell_Whole) (h_vary_Of : Ok_vary_Of w.vary_Of) (h_cell_TakeLine : Ok_cell_TakeLine w.cell_TakeLine) (h_cell_PutLine : Ok_cell_PutLine w.cell_PutLine) : KnownOK Tryd.prog T (O_law08_CellAny w) :=
  known_ok ok (known_ok ok (known_ok ok (known_ok ok (known_ok ok (known0_ok) fn_law08_fit (by kernel_rfl) (g0_ok h_law08_fit)) fn_cell_Whole (by kernel_rfl) (g1_ok h_cell_Whole)) fn_vary_Of (by kernel_rfl) (g1_ok h_vary_Of)) fn_cell_TakeLine (by kernel_rfl) (g2_ok h_cell_TakeLine)) fn_cell_PutLine (by kernel_rfl) (g2_ok h_cell_PutLine)
structure C_grid_Fit where
  cell_Mend : Sl → Heap → Option (Sl × Heap)
  slices_Clone : Sl → Heap → Option (Sl × Heap)
  grid_blank : Int → api_Style → Heap → Option (Sl × Heap)
noncomputable def O_grid_Fit (w : C_grid_Fit) : Known := (((known0).and 24 (g1 (tSl 6) (tSl 6) w.cell_Mend)).and 55 (g1 (tSl 6) (tSl 6) w.slices_Clone)).and 67 (g2 (tInt .i64) t_api_Style (tSl 6) w.grid_blank)
theorem K_grid_Fit (w : C_grid_Fit) (h_cell_Mend : Ok_cell_Mend w.cell_Mend) (h_slices_Clone : Ok_slices_Clone w.slices_Clone) (h_grid_blank : Ok_grid_blank w.grid_blank) : KnownOK Tryd.prog T (O_grid_Fit w) :=
  known_ok ok (known_ok ok (known_ok ok (known0_ok) fn_cell_Mend (by kernel_rfl) (g1_ok h_cell_Mend)) fn_slices_Clone (by kernel_rfl) (g1_ok h_slices_Clone)) fn_grid_blank (by kernel_rfl) (g2_ok h_grid_blank)
structure C_law09_GridFits where
  law08_Tame : Sl → Heap → Option (Sl × Heap)
  ref08_Mend : Sl → Heap → Option (Sl × Heap)
  law08_Same : Sl → Sl → Heap → Option (Bool × Heap)
  cell_Whole : Sl → Heap → Option (Bool × Heap)
  law09_fit : Heap → Option (Bool × Heap)
  law09_within : Int → Int → Int → Heap → Option (Int × Heap)
  grid_Fit : Sl → Int → Heap → Option (Sl × Heap)
noncomputable def O_law09_GridFits (w : C_law09_GridFits) : Known := (((((((known0).and 23 (g1 (tSl 6) (tSl 6) w.law08_Tame)).and 25 (g1 (tSl 6) (tSl 6) w.ref08_Mend)).and 26 (g2 (tSl 6) (tSl 6) tBool w.law08_Same)).and 27 (g1 (tSl 6) tBool w.cell_Whole)).and 35 (g0  tBool w.law09_fit)).and 39 (g3 (tInt .i64) (tInt .i64) (tInt .i64) (tInt .i64) w.law09_within)).and 44 (g2 (tSl 6) (tInt .i64) (tSl 6) w.grid_Fit)
theorem K_law09_GridFits (w : C_law09_GridFits) (h_law08_Tame : Ok_law08_Tame w.law08_Tame) (h_ref08_Mend : Ok_ref08_Mend w.ref08_Mend) (h_law08_Same : Ok_law08_Same w.law08_Same) (h_cell_Whole : Ok_cell_Whole w.cell_Whole) (h_law09_fit : Ok_law09_fit w.law09_fit) (h_law09_within : Ok_law09_within w.law09_within) (h_grid_Fit : Ok_grid_Fit w.grid_Fit) : KnownOK Tryd.prog T (O_law09_GridFits w) :=
  known_ok ok (known_ok ok (known_ok ok (known_ok ok (known_ok ok (known_ok ok (known_ok ok (known0_ok) fn_law08_Tame (by kernel_rfl) (g1_ok h_law08_Tame)) fn_ref08_Mend (by kernel_rfl) (g1_ok h_ref08_Mend)) fn_law08_Same (by kernel_rfl) (g2_ok h_law08_Same)) fn_cell_Whole (by kernel_rfl) (g1_ok h_cell_Whole)) fn_law09_fit (by kernel_rfl) (g0_ok h_law09_fit)) fn_law09_within (by kernel_rfl) (g3_ok h_law09_within)) fn_grid_Fit (by kernel_rfl) (g2_ok h_grid_Fit)
structure C_law08_CellLines where
  law08_fit : Heap → Option (Bool × Heap)
  law08_Tame : Sl → Heap → Option (Sl × Heap)
  ref08_Mend : Sl → Heap → Option (Sl × Heap)
  law08_Same : Sl → Sl → Heap → Option (Bool × Heap)
  vary_Of : Sl → Heap → Option (Pt × Heap)
  cell_TakeLine : Pt → Int → Heap → Option ((Sl × Bool) × Heap)
  cell_PutLine : Sl → Sl → Heap → Option (Sl × Heap)
  vary_Reader_Done : Pt → Heap → Option (Bool × Heap)
noncomputable def O_law08_CellLines (w : C_law08_CellLines) : Known := ((((((((known0).and 17 (g0  tBool w.law08_fit)).and 23 (g1 (tSl 6) (tSl 6) w.law08_Tame)).and 25 (g1 (tSl 6) (tSl 6) w.ref08_Mend)).and 26 (g2 (tSl 6) (tSl 6) tBool w.law08_Same)).and 31 (g1 (tSl 1) tPtr w.vary_Of)).and 42 (g2 tPtr (tInt .i64) (tPair (tSl 6) tBool) w.cell_TakeLine)).and 43 (g2 (tSl 1) (tSl 6) (tSl 1) w.cell_PutLine)).and 45 (g1 tPtr tBool w.vary_Reader_Done)
theorem K_law08_CellLines (w : C_law08_CellLines) (h_law08_fit : Ok_law08_fit w.law08_fit) (h_law08_Tame : Ok_law08_Tame w.law08_Tame) (h_ref08_Mend : Ok_ref08_Mend w.ref08_Mend) (h_law08_Same : Ok_law08_Same w.law08_Same) (h_vary_Of : Ok_vary_Of w.vary_Of) (h_cell_TakeLine : Ok_cell_TakeLine w.cell_TakeLine) (h_cell_PutLine : Ok_cell_PutLine w.cell_PutLine) (h_vary_Reader_Done : Ok_vary_Reader_Done w.vary_Reader_Done) : KnownOK Tryd.prog T (O_law08_CellLines w) :=
  known_ok ok (known_ok ok (known_ok ok (known_ok ok (known_ok ok (known_ok ok (known_ok ok (known_ok ok (known0_ok) fn_law08_fit (by kernel_rfl) (g0_ok h_law08_fit)) fn_law08_Tame (by kernel_rfl) (g1_ok h_law08_Tame)) fn_ref08_Mend (by kernel_rfl) (g1_ok h_ref08_Mend)) fn_law08_Same (by kernel_rfl) (g2_ok h_law08_Same)) fn_vary_Of (by kernel_rfl) (g1_ok h_vary_Of)) fn_cell_TakeLine (by kernel_rfl) (g2_ok h_cell_TakeLine)) fn_cell_PutLine (by kernel_rfl) (g2_ok h_cell_PutLine)) fn_vary_Reader_Done (by kernel_rfl) (g1_ok h_vary_Reader_Done)
structure C_grid_Grid_Resize where
  grid_Fit : Sl → Int → Heap → Option (Sl × Heap)
  grid_blank : Int → api_Style → Heap → Option (Sl × Heap)
  grid_bring : Int → Heap → Option (Int × Heap)
noncomputable def O_grid_Grid_Resize (w : C_grid_Grid_Resize) : Known := (((known0).and 44 (g2 (tSl 6) (tInt .i64) (tSl 6) w.grid_Fit)).and 67 (g2 (tInt .i64) t_api_Style (tSl 6) w.grid_blank)).and 68 (g1 (tInt .i64) (tInt .i64) w.grid_bring)
theorem K_grid_Grid_Resize (w : C_grid_Grid_Resize) (h_grid_Fit : Ok_grid_Fit w.grid_Fit) (h_grid_blank : Ok_grid_blank w.grid_blank) (h_grid_bring : Ok_grid_bring w.grid_bring) : KnownOK Tryd.prog T (O_grid_Grid_Resize w) :=
  known_ok ok (known_ok ok (known_ok ok (known0_ok) fn_grid_Fit (by kernel_rfl) (g2_ok h_grid_Fit)) fn_grid_blank (by kernel_rfl) (g2_ok h_grid_blank)) fn_grid_bring (by kernel_rfl) (g1_ok h_grid_bring)
structure C_law09_whole where
  cell_Whole : Sl → Heap → Option (Bool × Heap)
noncomputable def O_law09_whole (w : C_law09_whole) : Known := (known0).and 27 (g1 (tSl 6) tBool w.cell_Whole)
theorem K_law09_whole (w : C_law09_whole) (h_cell_Whole : Ok_cell_Whole w.cell_Whole) : KnownOK Tryd.prog T (O_law09_whole w) :=
  known_ok ok (known0_ok) fn_cell_Whole (by kernel_rfl) (g1_ok h_cell_Whole)
structure C_grid_Same where
  slices_Equal : Sl → Sl → Heap → Option (Bool × Heap)
noncomputable def O_grid_Same (w : C_grid_Same) : Known := (known0).and 69 (g2 (tSl 6) (tSl 6) tBool w.slices_Equal)
theorem K_grid_Same (w : C_grid_Same) (h_slices_Equal : Ok_slices_Equal w.slices_Equal) : KnownOK Tryd.prog T (O_grid_Same w) :=
  known_ok ok (known0_ok) fn_slices_Equal (by kernel_rfl) (g2_ok h_slices_Equal)
structure C_law09_GridSizes where
  law09_fit : Heap → Option (Bool × Heap)
  law09_Fill : Int → Int → Sl → Heap → Option (Pt × Heap)
  grid_Grid_Copy : Pt → Heap → Option (Pt × Heap)
  grid_Grid_Resize : Pt → Int → Int → Int → Heap → Option (Sl × Heap)
  law09_whole : Pt → Heap → Option (Bool × Heap)
  grid_Grid_At : Pt → Int → Int → Heap → Option (api_Cell × Heap)
  grid_Same : Pt → Pt → Heap → Option (Bool × Heap)
noncomputable def O_law09_GridSizes (w : C_law09_GridSizes) : Known := (((((((known0).and 35 (g0  tBool w.law09_fit)).and 36 (g3 (tInt .i64) (tInt .i64) (tSl 6) tPtr w.law09_Fill)).and 38 (g1 tPtr tPtr w.grid_Grid_Copy)).and 46 (g4 tPtr (tInt .i64) (tInt .i64) (tInt .i64) (tSl 1) w.grid_Grid_Resize)).and 47 (g1 tPtr tBool w.law09_whole)).and 48 (g3 tPtr (tInt .i64) (tInt .i64) t_api_Cell w.grid_Grid_At)).and 49 (g2 tPtr tPtr tBool w.grid_Same)
theorem K_law09_GridSizes (w : C_law09_GridSizes) (h_law09_fit : Ok_law09_fit w.law09_fit) (h_law09_Fill : Ok_law09_Fill w.law09_Fill) (h_grid_Grid_Copy : Ok_grid_Grid_Copy w.grid_Grid_Copy) (h_grid_Grid_Resize : Ok_grid_Grid_Resize w.grid_Grid_Resize) (h_law09_whole : Ok_law09_whole w.law09_whole) (h_grid_Grid_At : Ok_grid_Grid_At w.grid_Grid_At) (h_grid_Same : Ok_grid_Same w.grid_Same) : KnownOK Tryd.prog T (O_law09_GridSizes w) :=
  known_ok ok (known_ok ok (known_ok ok (known_ok ok (known_ok ok (known_ok ok (known_ok ok (known0_ok) fn_law09_fit (by kernel_rfl) (g0_ok h_law09_fit)) fn_law09_Fill (by kernel_rfl) (g3_ok h_law09_Fill)) fn_grid_Grid_Copy (by kernel_rfl) (g1_ok h_grid_Grid_Copy)) fn_grid_Grid_Resize (by kernel_rfl) (g4_ok h_grid_Grid_Resize)) fn_law09_whole (by kernel_rfl) (g1_ok h_law09_whole)) fn_grid_Grid_At (by kernel_rfl) (g3_ok h_grid_Grid_At)) fn_grid_Same (by kernel_rfl) (g2_ok h_grid_Same)
structure C_law09_tame where
  cell_Style : api_Style → Heap → Option (Bool × Heap)
noncomputable def O_law09_tame (w : C_law09_tame) : Known := (known0).and 20 (g1 t_api_Style tBool w.cell_Style)
theorem K_law09_tame (w : C_law09_tame) (h_cell_Style : Ok_cell_Style w.cell_Style) : KnownOK Tryd.prog T (O_law09_tame w) :=
  known_ok ok (known0_ok) fn_cell_Style (by kernel_rfl) (g1_ok h_cell_Style)
structure C_grid_Grid_Clear where
  cell_Mend : Sl → Heap → Option (Sl × Heap)
  cell_Blank : api_Style → Heap → Option (api_Cell × Heap)
  grid_Grid_there : Pt → Int → Int → Heap → Option (Bool × Heap)
noncomputable def O_grid_Grid_Clear (w : C_grid_Grid_Clear) : Known := (((known0).and 24 (g1 (tSl 6) (tSl 6) w.cell_Mend)).and 34 (g1 t_api_Style t_api_Cell w.cell_Blank)).and 65 (g3 tPtr (tInt .i64) (tInt .i64) tBool w.grid_Grid_there)
theorem K_grid_Grid_Clear (w : C_grid_Grid_Clear) (h_cell_Mend : Ok_cell_Mend w.cell_Mend) (h_cell_Blank : Ok_cell_Blank w.cell_Blank) (h_grid_Grid_there : Ok_grid_Grid_there w.grid_Grid_there) : KnownOK Tryd.prog T (O_grid_Grid_Clear w) :=
  known_ok ok (known_ok ok (known_ok ok (known0_ok) fn_cell_Mend (by kernel_rfl) (g1_ok h_cell_Mend)) fn_cell_Blank (by kernel_rfl) (g1_ok h_cell_Blank)) fn_grid_Grid_there (by kernel_rfl) (g3_ok h_grid_Grid_there)
structure C_grid_Grid_Open where
  grid_Grid_there : Pt → Int → Int → Heap → Option (Bool × Heap)
  grid_Grid_Clear : Pt → Int → Int → Int → api_Style → Heap → Option (Unit × Heap)
noncomputable def O_grid_Grid_Open (w : C_grid_Grid_Open) : Known := ((known0).and 65 (g3 tPtr (tInt .i64) (tInt .i64) tBool w.grid_Grid_there)).and 72 (g5 tPtr (tInt .i64) (tInt .i64) (tInt .i64) t_api_Style tVoid w.grid_Grid_Clear)
theorem K_grid_Grid_Open (w : C_grid_Grid_Open) (h_grid_Grid_there : Ok_grid_Grid_there w.grid_Grid_there) (h_grid_Grid_Clear : Ok_grid_Grid_Clear w.grid_Grid_Clear) : KnownOK Tryd.prog T (O_grid_Grid_Open w) :=
  known_ok ok (known_ok ok (known0_ok) fn_grid_Grid_there (by kernel_rfl) (g3_ok h_grid_Grid_there)) fn_grid_Grid_Clear (by kernel_rfl) (g5_ok h_grid_Grid_Clear)
structure C_grid_Grid_Shut where
  grid_Grid_there : Pt → Int → Int → Heap → Option (Bool × Heap)
  grid_Grid_Clear : Pt → Int → Int → Int → api_Style → Heap → Option (Unit × Heap)
noncomputable def O_grid_Grid_Shut (w : C_grid_Grid_Shut) : Known := ((known0).and 65 (g3 tPtr (tInt .i64) (tInt .i64) tBool w.grid_Grid_there)).and 72 (g5 tPtr (tInt .i64) (tInt .i64) (tInt .i64) t_api_Style tVoid w.grid_Grid_Clear)
theorem K_grid_Grid_Shut (w : C_grid_Grid_Shut) (h_grid_Grid_there : Ok_grid_Grid_there w.grid_Grid_there) (h_grid_Grid_Clear : Ok_grid_Grid_Clear w.grid_Grid_Clear) : KnownOK Tryd.prog T (O_grid_Grid_Shut w) :=
  known_ok ok (known_ok ok (known0_ok) fn_grid_Grid_there (by kernel_rfl) (g3_ok h_grid_Grid_there)) fn_grid_Grid_Clear (by kernel_rfl) (g5_ok h_grid_Grid_Clear)
structure C_law09_do where
  grid_Grid_Up : Pt → Int → Int → Int → api_Style → Heap → Option (Sl × Heap)
  grid_Grid_Down : Pt → Int → Int → Int → api_Style → Heap → Option (Unit × Heap)
  grid_Grid_Resize : Pt → Int → Int → Int → Heap → Option (Sl × Heap)
  grid_Grid_Put : Pt → Int → Int → api_Cell → Heap → Option (Unit × Heap)
  law09_tame : api_Style → Heap → Option (api_Style × Heap)
  law09_Deed_kind : law09_Deed → Heap → Option (Int × Heap)
  grid_Grid_Clear : Pt → Int → Int → Int → api_Style → Heap → Option (Unit × Heap)
  grid_Grid_Open : Pt → Int → Int → Int → api_Style → Heap → Option (Unit × Heap)
  grid_Grid_Shut : Pt → Int → Int → Int → api_Style → Heap → Option (Unit × Heap)
noncomputable def O_law09_do (w : C_law09_do) : Known := (((((((((known0).and 40 (g5 tPtr (tInt .i64) (tInt .i64) (tInt .i64) t_api_Style (tSl 1) w.grid_Grid_Up)).and 41 (g5 tPtr (tInt .i64) (tInt .i64) (tInt .i64) t_api_Style tVoid w.grid_Grid_Down)).and 46 (g4 tPtr (tInt .i64) (tInt .i64) (tInt .i64) (tSl 1) w.grid_Grid_Resize)).and 64 (g4 tPtr (tInt .i64) (tInt .i64) t_api_Cell tVoid w.grid_Grid_Put)).and 70 (g1 t_api_Style t_api_Style w.law09_tame)).and 71 (g1 t_law09_Deed (tInt .i64) w.law09_Deed_kind)).and 72 (g5 tPtr (tInt .i64) (tInt .i64) (tInt .i64) t_api_Style tVoid w.grid_Grid_Clear)).and 73 (g5 tPtr (tInt .i64) (tInt .i64) (tInt .i64) t_api_Style tVoid w.grid_Grid_Open)).and 74 (g5 tPtr (tInt .i64) (tInt .i64) (tInt .i64) t_api_Style tVoid w.grid_Grid_Shut)
theorem K_law09_do (w : C_law09_do) (h_grid_Grid_Up : Ok_grid_Grid_Up w.grid_Grid_Up) (h_grid_Grid_Down : Ok_grid_Grid_Down w.grid_Grid_Down) (h_grid_Grid_Resize : Ok_grid_Grid_Resize w.grid_Grid_Resize) (h_grid_Grid_Put : Ok_grid_Grid_Put w.grid_Grid_Put) (h_law09_tame : Ok_law09_tame w.law09_tame) (h_law09_Deed_kind : Ok_law09_Deed_kind w.law09_Deed_kind) (h_grid_Grid_Clear : Ok_grid_Grid_Clear w.grid_Grid_Clear) (h_grid_Grid_Open : Ok_grid_Grid_Open w.grid_Grid_Open) (h_grid_Grid_Shut : Ok_grid_Grid_Shut w.grid_Grid_Shut) : KnownOK Tryd.prog T (O_law09_do w) :=
  known_ok ok (known_ok ok (known_ok ok (known_ok ok (known_ok ok (known_ok ok (known_ok ok (known_ok ok (known_ok ok (known0_ok) fn_grid_Grid_Up (by kernel_rfl) (g5_ok h_grid_Grid_Up)) fn_grid_Grid_Down (by kernel_rfl) (g5_ok h_grid_Grid_Down)) fn_grid_Grid_Resize (by kernel_rfl) (g4_ok h_grid_Grid_Resize)) fn_grid_Grid_Put (by kernel_rfl) (g4_ok h_grid_Grid_Put)) fn_law09_tame (by kernel_rfl) (g1_ok h_law09_tame)) fn_law09_Deed_kind (by kernel_rfl) (g1_ok h_law09_Deed_kind)) fn_grid_Grid_Clear (by kernel_rfl) (g5_ok h_grid_Grid_Clear)) fn_grid_Grid_Open (by kernel_rfl) (g5_ok h_grid_Grid_Open)) fn_grid_Grid_Shut (by kernel_rfl) (g5_ok h_grid_Grid_Shut)
structure C_law09_GridWholes where
  cell_Whole : Sl → Heap → Option (Bool × Heap)
  law09_fit : Heap → Option (Bool × Heap)
  law09_Fill : Int → Int → Sl → Heap → Option (Pt × Heap)
  law09_whole : Pt → Heap → Option (Bool × Heap)
  law09_do : Pt → law09_Deed → Heap → Option (Sl × Heap)
noncomputable def O_law09_GridWholes (w : C_law09_GridWholes) : Known := (((((known0).and 27 (g1 (tSl 6) tBool w.cell_Whole)).and 35 (g0  tBool w.law09_fit)).and 36 (g3 (tInt .i64) (tInt .i64) (tSl 6) tPtr w.law09_Fill)).and 47 (g1 tPtr tBool w.law09_whole)).and 50 (g2 tPtr t_law09_Deed (tSl 1) w.law09_do)
theorem K_law09_GridWholes (w : C_law09_GridWholes) (h_cell_Whole : Ok_cell_Whole w.cell_Whole) (h_law09_fit : Ok_law09_fit w.law09_fit) (h_law09_Fill : Ok_law09_Fill w.law09_Fill) (h_law09_whole : Ok_law09_whole w.law09_whole) (h_law09_do : Ok_law09_do w.law09_do) : KnownOK Tryd.prog T (O_law09_GridWholes w) :=
  known_ok ok (known_ok ok (known_ok ok (known_ok ok (known_ok ok (known0_ok) fn_cell_Whole (by kernel_rfl) (g1_ok h_cell_Whole)) fn_law09_fit (by kernel_rfl) (g0_ok h_law09_fit)) fn_law09_Fill (by kernel_rfl) (g3_ok h_law09_Fill)) fn_law09_whole (by kernel_rfl) (g1_ok h_law09_whole)) fn_law09_do (by kernel_rfl) (g2_ok h_law09_do)
structure C_law09_lines_line where
  ref08_Mend : Sl → Heap → Option (Sl × Heap)
  ref07_Wide : Int → Heap → Option (Bool × Heap)
  law09_within : Int → Int → Int → Heap → Option (Int × Heap)
  law09_tame : api_Style → Heap → Option (api_Style × Heap)
  law09_Deed_kind : law09_Deed → Heap → Option (Int × Heap)
  law09_lines_read : Sl → Int → Int → api_Style → Heap → Option (api_Cell × Heap)
noncomputable def O_law09_lines_line (w : C_law09_lines_line) : Known := ((((((known0).and 25 (g1 (tSl 6) (tSl 6) w.ref08_Mend)).and 28 (g1 (tInt .i32) tBool w.ref07_Wide)).and 39 (g3 (tInt .i64) (tInt .i64) (tInt .i64) (tInt .i64) w.law09_within)).and 70 (g1 t_api_Style t_api_Style w.law09_tame)).and 71 (g1 t_law09_Deed (tInt .i64) w.law09_Deed_kind)).and 75 (g4 (tSl 1) (tInt .i64) (tInt .i64) t_api_Style t_api_Cell w.law09_lines_read)
theorem K_law09_lines_line (w : C_law09_lines_line) (h_ref08_Mend : Ok_ref08_Mend w.ref08_Mend) (h_ref07_Wide : Ok_ref07_Wide w.ref07_Wide) (h_law09_within : Ok_law09_within w.law09_within) (h_law09_tame : Ok_law09_tame w.law09_tame) (h_law09_Deed_kind : Ok_law09_Deed_kind w.law09_Deed_kind) (h_law09_lines_read : Ok_law09_lines_read w.law09_lines_read) : KnownOK Tryd.prog T (O_law09_lines_line w) :=
  known_ok ok (known_ok ok (known_ok ok (known_ok ok (known_ok ok (known_ok ok (known0_ok) fn_ref08_Mend (by kernel_rfl) (g1_ok h_ref08_Mend)) fn_ref07_Wide (by kernel_rfl) (g1_ok h_ref07_Wide)) fn_law09_within (by kernel_rfl) (g3_ok h_law09_within)) fn_law09_tame (by kernel_rfl) (g1_ok h_law09_tame)) fn_law09_Deed_kind (by kernel_rfl) (g1_ok h_law09_Deed_kind)) fn_law09_lines_read (by kernel_rfl) (g4_ok h_law09_lines_read)
structure C_law09_lines_do where
  ref08_Mend : Sl → Heap → Option (Sl × Heap)
  cell_Right : api_Cell → Heap → Option (Bool × Heap)
  law09_within : Int → Int → Int → Heap → Option (Int × Heap)
  law09_tame : api_Style → Heap → Option (api_Style × Heap)
  law09_Deed_kind : law09_Deed → Heap → Option (Int × Heap)
  law09_lines_read : Sl → Int → Int → api_Style → Heap → Option (api_Cell × Heap)
  law09_lines_line : Sl → law09_Deed → Int → Heap → Option (Sl × Heap)
noncomputable def O_law09_lines_do (w : C_law09_lines_do) : Known := (((((((known0).and 25 (g1 (tSl 6) (tSl 6) w.ref08_Mend)).and 30 (g1 t_api_Cell tBool w.cell_Right)).and 39 (g3 (tInt .i64) (tInt .i64) (tInt .i64) (tInt .i64) w.law09_within)).and 70 (g1 t_api_Style t_api_Style w.law09_tame)).and 71 (g1 t_law09_Deed (tInt .i64) w.law09_Deed_kind)).and 75 (g4 (tSl 1) (tInt .i64) (tInt .i64) t_api_Style t_api_Cell w.law09_lines_read)).and 76 (g3 (tSl 1) t_law09_Deed (tInt .i64) (tSl 6) w.law09_lines_line)
theorem K_law09_lines_do (w : C_law09_lines_do) (h_ref08_Mend : Ok_ref08_Mend w.ref08_Mend) (h_cell_Right : Ok_cell_Right w.cell_Right) (h_law09_within : Ok_law09_within w.law09_within) (h_law09_tame : Ok_law09_tame w.law09_tame) (h_law09_Deed_kind : Ok_law09_Deed_kind w.law09_Deed_kind) (h_law09_lines_read : Ok_law09_lines_read w.law09_lines_read) (h_law09_lines_line : Ok_law09_lines_line w.law09_lines_line) : KnownOK Tryd.prog T (O_law09_lines_do w) :=
  known_ok ok (known_ok ok (known_ok ok (known_ok ok (known_ok ok (known_ok ok (known_ok ok (known0_ok) fn_ref08_Mend (by kernel_rfl) (g1_ok h_ref08_Mend)) fn_cell_Right (by kernel_rfl) (g1_ok h_cell_Right)) fn_law09_within (by kernel_rfl) (g3_ok h_law09_within)) fn_law09_tame (by kernel_rfl) (g1_ok h_law09_tame)) fn_law09_Deed_kind (by kernel_rfl) (g1_ok h_law09_Deed_kind)) fn_law09_lines_read (by kernel_rfl) (g4_ok h_law09_lines_read)) fn_law09_lines_line (by kernel_rfl) (g3_ok h_law09_lines_line)
structure C_law09_equal where
  law08_Same : Sl → Sl → Heap → Option (Bool × Heap)
noncomputable def O_law09_equal (w : C_law09_equal) : Known := (known0).and 26 (g2 (tSl 6) (tSl 6) tBool w.law08_Same)
theorem K_law09_equal (w : C_law09_equal) (h_law08_Same : Ok_law08_Same w.law08_Same) : KnownOK Tryd.prog T (O_law09_equal w) :=
  known_ok ok (known0_ok) fn_law08_Same (by kernel_rfl) (g2_ok h_law08_Same)
structure C_law09_GridRuns where
  law09_fit : Heap → Option (Bool × Heap)
  law09_Fill : Int → Int → Sl → Heap → Option (Pt × Heap)
  grid_Grid_Copy : Pt → Heap → Option (Pt × Heap)
  law09_whole : Pt → Heap → Option (Bool × Heap)
  law09_do : Pt → law09_Deed → Heap → Option (Sl × Heap)
  law09_lines_do : Sl → law09_Deed → Heap → Option ((Sl × Sl) × Heap)
  law09_equal : Sl → Sl → Heap → Option (Bool × Heap)
noncomputable def O_law09_GridRuns (w : C_law09_GridRuns) : Known := (((((((known0).and 35 (g0  tBool w.law09_fit)).and 36 (g3 (tInt .i64) (tInt .i64) (tSl 6) tPtr w.law09_Fill)).and 38 (g1 tPtr tPtr w.grid_Grid_Copy)).and 47 (g1 tPtr tBool w.law09_whole)).and 50 (g2 tPtr t_law09_Deed (tSl 1) w.law09_do)).and 51 (g2 (tSl 1) t_law09_Deed (tPair (tSl 1) (tSl 1)) w.law09_lines_do)).and 52 (g2 (tSl 1) (tSl 1) tBool w.law09_equal)
theorem K_law09_GridRuns (w : C_law09_GridRuns) (h_law09_fit : Ok_law09_fit w.law09_fit) (h_law09_Fill : Ok_law09_Fill w.law09_Fill) (h_grid_Grid_Copy : Ok_grid_Grid_Copy w.grid_Grid_Copy) (h_law09_whole : Ok_law09_whole w.law09_whole) (h_law09_do : Ok_law09_do w.law09_do) (h_law09_lines_do : Ok_law09_lines_do w.law09_lines_do) (h_law09_equal : Ok_law09_equal w.law09_equal) : KnownOK Tryd.prog T (O_law09_GridRuns w) :=
  known_ok ok (known_ok ok (known_ok ok (known_ok ok (known_ok ok (known_ok ok (known_ok ok (known0_ok) fn_law09_fit (by kernel_rfl) (g0_ok h_law09_fit)) fn_law09_Fill (by kernel_rfl) (g3_ok h_law09_Fill)) fn_grid_Grid_Copy (by kernel_rfl) (g1_ok h_grid_Grid_Copy)) fn_law09_whole (by kernel_rfl) (g1_ok h_law09_whole)) fn_law09_do (by kernel_rfl) (g2_ok h_law09_do)) fn_law09_lines_do (by kernel_rfl) (g2_ok h_law09_lines_do)) fn_law09_equal (by kernel_rfl) (g2_ok h_law09_equal)
structure C_law09_GridCopies where
  law09_fit : Heap → Option (Bool × Heap)
  law09_Fill : Int → Int → Sl → Heap → Option (Pt × Heap)
  grid_Grid_Copy : Pt → Heap → Option (Pt × Heap)
  grid_Same : Pt → Pt → Heap → Option (Bool × Heap)
  law09_do : Pt → law09_Deed → Heap → Option (Sl × Heap)
  law09_equal : Sl → Sl → Heap → Option (Bool × Heap)
  grid_New : Int → Int → Heap → Option (Pt × Heap)
noncomputable def O_law09_GridCopies (w : C_law09_GridCopies) : Known := (((((((known0).and 35 (g0  tBool w.law09_fit)).and 36 (g3 (tInt .i64) (tInt .i64) (tSl 6) tPtr w.law09_Fill)).and 38 (g1 tPtr tPtr w.grid_Grid_Copy)).and 49 (g2 tPtr tPtr tBool w.grid_Same)).and 50 (g2 tPtr t_law09_Deed (tSl 1) w.law09_do)).and 52 (g2 (tSl 1) (tSl 1) tBool w.law09_equal)).and 53 (g2 (tInt .i64) (tInt .i64) tPtr w.grid_New)
theorem K_law09_GridCopies (w : C_law09_GridCopies) (h_law09_fit : Ok_law09_fit w.law09_fit) (h_law09_Fill : Ok_law09_Fill w.law09_Fill) (h_grid_Grid_Copy : Ok_grid_Grid_Copy w.grid_Grid_Copy) (h_grid_Same : Ok_grid_Same w.grid_Same) (h_law09_do : Ok_law09_do w.law09_do) (h_law09_equal : Ok_law09_equal w.law09_equal) (h_grid_New : Ok_grid_New w.grid_New) : KnownOK Tryd.prog T (O_law09_GridCopies w) :=
  known_ok ok (known_ok ok (known_ok ok (known_ok ok (known_ok ok (known_ok ok (known_ok ok (known0_ok) fn_law09_fit (by kernel_rfl) (g0_ok h_law09_fit)) fn_law09_Fill (by kernel_rfl) (g3_ok h_law09_Fill)) fn_grid_Grid_Copy (by kernel_rfl) (g1_ok h_grid_Grid_Copy)) fn_grid_Same (by kernel_rfl) (g2_ok h_grid_Same)) fn_law09_do (by kernel_rfl) (g2_ok h_law09_do)) fn_law09_equal (by kernel_rfl) (g2_ok h_law09_equal)) fn_grid_New (by kernel_rfl) (g2_ok h_grid_New)
end Go.Abs.TA
