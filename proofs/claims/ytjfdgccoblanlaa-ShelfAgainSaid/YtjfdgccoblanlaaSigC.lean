/-
What is known of each function, by its callees.
-/
import Derived.Test.YtjfdgccoblanlaaTypC
namespace Go.Abs.TC
open Go Go.Abs Go.Proofs
def Ok_file_New (w : Int → Heap → Option (Pt × Heap)) : Prop := ∀ x0 σ v σ', w x0 σ = some (v, σ') → CallOK Try.prog T 15 [(tInt .i64).av x0] σ (tPtr.av v) σ'
theorem fn_file_New : T.fn 15 = some Try.f15 := by kernel_rfl
def Ok_file_Store_Names (w : Pt → Heap → Option (Sl × Heap)) : Prop := ∀ x0 σ v σ', w x0 σ = some (v, σ') → CallOK Try.prog T 29 [tPtr.av x0] σ ((tSl 1).av v) σ'
theorem fn_file_Store_Names : T.fn 29 = some Try.f29 := by kernel_rfl
def Ok_file_Store_Crash (w : Pt → Sl → Heap → Option (Unit × Heap)) : Prop := ∀ x0 x1 σ v σ', w x0 x1 σ = some (v, σ') → CallOK Try.prog T 17 [tPtr.av x0, (tSl 1).av x1] σ (tVoid.av v) σ'
theorem fn_file_Store_Crash : T.fn 17 = some Try.f17 := by kernel_rfl
def Ok_file_Store_Used (w : Pt → Heap → Option (Int × Heap)) : Prop := ∀ x0 σ v σ', w x0 σ = some (v, σ') → CallOK Try.prog T 23 [tPtr.av x0] σ ((tInt .i64).av v) σ'
theorem fn_file_Store_Used : T.fn 23 = some Try.f23 := by kernel_rfl
def Ok_file_named (w : ByteArray → Heap → Option (Bool × Heap)) : Prop := ∀ x0 σ v σ', w x0 σ = some (v, σ') → CallOK Try.prog T 41 [tStr.av x0] σ (tBool.av v) σ'
theorem fn_file_named : T.fn 41 = some Try.f41 := by kernel_rfl
def Ok_file_Store_change (w : Pt → Heap → Option (Int × Heap)) : Prop := ∀ x0 σ v σ', w x0 σ = some (v, σ') → CallOK Try.prog T 42 [tPtr.av x0] σ ((tInt .i64).av v) σ'
theorem fn_file_Store_change : T.fn 42 = some Try.f42 := by kernel_rfl
def Ok_file_Store_Append (w : Pt → ByteArray → Sl → Heap → Option (Int × Heap)) : Prop := ∀ x0 x1 x2 σ v σ', w x0 x1 x2 σ = some (v, σ') → CallOK Try.prog T 18 [tPtr.av x0, tStr.av x1, (tSl 1).av x2] σ ((tInt .i64).av v) σ'
theorem fn_file_Store_Append : T.fn 18 = some Try.f18 := by kernel_rfl
def Ok_file_Store_find (w : Pt → ByteArray → Heap → Option ((Pt × Int) × Heap)) : Prop := ∀ x0 x1 σ v σ', w x0 x1 σ = some (v, σ') → CallOK Try.prog T 43 [tPtr.av x0, tStr.av x1] σ ((tPair tPtr (tInt .i64)).av v) σ'
theorem fn_file_Store_find : T.fn 43 = some Try.f43 := by kernel_rfl
def Ok_slices_Clone (w : Sl → Heap → Option (Sl × Heap)) : Prop := ∀ x0 σ v σ', w x0 σ = some (v, σ') → CallOK Try.prog T 44 [(tSl 1).av x0] σ ((tSl 1).av v) σ'
theorem fn_slices_Clone : T.fn 44 = some Try.f44 := by kernel_rfl
def Ok_file_Store_Read (w : Pt → ByteArray → Heap → Option ((Sl × Int) × Heap)) : Prop := ∀ x0 x1 σ v σ', w x0 x1 σ = some (v, σ') → CallOK Try.prog T 20 [tPtr.av x0, tStr.av x1] σ ((tPair (tSl 1) (tInt .i64)).av v) σ'
theorem fn_file_Store_Read : T.fn 20 = some Try.f20 := by kernel_rfl
def Ok_file_Store_Up (w : Pt → Heap → Option (Bool × Heap)) : Prop := ∀ x0 σ v σ', w x0 σ = some (v, σ') → CallOK Try.prog T 24 [tPtr.av x0] σ (tBool.av v) σ'
theorem fn_file_Store_Up : T.fn 24 = some Try.f24 := by kernel_rfl
def Ok_law04_fit (w : Heap → Option (Bool × Heap)) : Prop := ∀ σ v σ', w σ = some (v, σ') → CallOK Try.prog T 13 [] σ (tBool.av v) σ'
theorem fn_law04_fit : T.fn 13 = some Try.f13 := by kernel_rfl
def Ok_law04_short (w : Sl → Heap → Option (Bool × Heap)) : Prop := ∀ x0 σ v σ', w x0 σ = some (v, σ') → CallOK Try.prog T 14 [(tSl 5).av x0] σ (tBool.av v) σ'
theorem fn_law04_short : T.fn 14 = some Try.f14 := by kernel_rfl
def Ok_file_Store_Sync (w : Pt → ByteArray → Heap → Option (Int × Heap)) : Prop := ∀ x0 x1 σ v σ', w x0 x1 σ = some (v, σ') → CallOK Try.prog T 19 [tPtr.av x0, tStr.av x1] σ ((tInt .i64).av v) σ'
theorem fn_file_Store_Sync : T.fn 19 = some Try.f19 := by kernel_rfl
def Ok_law04_Call_kind (w : law04_Call → Heap → Option (Int × Heap)) : Prop := ∀ x0 σ v σ', w x0 σ = some (v, σ') → CallOK Try.prog T 21 [t_law04_Call.av x0] σ ((tInt .i64).av v) σ'
theorem fn_law04_Call_kind : T.fn 21 = some Try.f21 := by kernel_rfl
def Ok_file_Store_Fuse (w : Pt → Int → Heap → Option (Unit × Heap)) : Prop := ∀ x0 x1 σ v σ', w x0 x1 σ = some (v, σ') → CallOK Try.prog T 22 [tPtr.av x0, (tInt .i64).av x1] σ (tVoid.av v) σ'
theorem fn_file_Store_Fuse : T.fn 22 = some Try.f22 := by kernel_rfl
def Ok_file_Store_Rename (w : Pt → ByteArray → ByteArray → Heap → Option (Int × Heap)) : Prop := ∀ x0 x1 x2 σ v σ', w x0 x1 x2 σ = some (v, σ') → CallOK Try.prog T 37 [tPtr.av x0, tStr.av x1, tStr.av x2] σ ((tInt .i64).av v) σ'
theorem fn_file_Store_Rename : T.fn 37 = some Try.f37 := by kernel_rfl
def Ok_file_Store_Delete (w : Pt → ByteArray → Heap → Option (Int × Heap)) : Prop := ∀ x0 x1 σ v σ', w x0 x1 σ = some (v, σ') → CallOK Try.prog T 38 [tPtr.av x0, tStr.av x1] σ ((tInt .i64).av v) σ'
theorem fn_file_Store_Delete : T.fn 38 = some Try.f38 := by kernel_rfl
def Ok_file_Store_Cut (w : Pt → ByteArray → Int → Heap → Option (Int × Heap)) : Prop := ∀ x0 x1 x2 σ v σ', w x0 x1 x2 σ = some (v, σ') → CallOK Try.prog T 39 [tPtr.av x0, tStr.av x1, (tInt .i64).av x2] σ ((tInt .i64).av v) σ'
theorem fn_file_Store_Cut : T.fn 39 = some Try.f39 := by kernel_rfl
def Ok_law04_Call_keeps (w : law04_Call → Heap → Option (Sl × Heap)) : Prop := ∀ x0 σ v σ', w x0 σ = some (v, σ') → CallOK Try.prog T 40 [t_law04_Call.av x0] σ ((tSl 1).av v) σ'
theorem fn_law04_Call_keeps : T.fn 40 = some Try.f40 := by kernel_rfl
def Ok_law04_do (w : Pt → law04_Call → Heap → Option (Int × Heap)) : Prop := ∀ x0 x1 σ v σ', w x0 x1 σ = some (v, σ') → CallOK Try.prog T 16 [tPtr.av x0, t_law04_Call.av x1] σ ((tInt .i64).av v) σ'
theorem fn_law04_do : T.fn 16 = some Try.f16 := by kernel_rfl
def Ok_law04_FileSures (w : Sl → Sl → Sl → Heap → Option (Bool × Heap)) : Prop := ∀ x0 x1 x2 σ v σ', w x0 x1 x2 σ = some (v, σ') → CallOK Try.prog T 3 [(tSl 5).av x0, (tSl 1).av x1, (tSl 5).av x2] σ (tBool.av v) σ'
theorem fn_law04_FileSures : T.fn 3 = some Try.f3 := by kernel_rfl
def Ok_law04_FileFuse (w : Int → Sl → Heap → Option (Bool × Heap)) : Prop := ∀ x0 x1 σ v σ', w x0 x1 σ = some (v, σ') → CallOK Try.prog T 4 [(tInt .i64).av x0, (tSl 5).av x1] σ (tBool.av v) σ'
theorem fn_law04_FileFuse : T.fn 4 = some Try.f4 := by kernel_rfl
def Ok_law04_right (w : ByteArray → Heap → Option (Bool × Heap)) : Prop := ∀ x0 σ v σ', w x0 σ = some (v, σ') → CallOK Try.prog T 25 [tStr.av x0] σ (tBool.av v) σ'
theorem fn_law04_right : T.fn 25 = some Try.f25 := by kernel_rfl
def Ok_law04_FileRooms (w : Int → Sl → Heap → Option (Bool × Heap)) : Prop := ∀ x0 x1 σ v σ', w x0 x1 σ = some (v, σ') → CallOK Try.prog T 5 [(tInt .i64).av x0, (tSl 5).av x1] σ (tBool.av v) σ'
theorem fn_law04_FileRooms : T.fn 5 = some Try.f5 := by kernel_rfl
def Ok_law04_model_crash (w : Pt → Sl → Heap → Option (Unit × Heap)) : Prop := ∀ x0 x1 σ v σ', w x0 x1 σ = some (v, σ') → CallOK Try.prog T 45 [tPtr.av x0, (tSl 1).av x1] σ (tVoid.av v) σ'
theorem fn_law04_model_crash : T.fn 45 = some Try.f45 := by kernel_rfl
def Ok_law04_model_at (w : Pt → ByteArray → Heap → Option ((Int × Bool) × Heap)) : Prop := ∀ x0 x1 σ v σ', w x0 x1 σ = some (v, σ') → CallOK Try.prog T 46 [tPtr.av x0, tStr.av x1] σ ((tPair (tInt .i64) tBool).av v) σ'
theorem fn_law04_model_at : T.fn 46 = some Try.f46 := by kernel_rfl
def Ok_law04_model_used (w : Pt → Heap → Option (Int × Heap)) : Prop := ∀ x0 σ v σ', w x0 σ = some (v, σ') → CallOK Try.prog T 50 [tPtr.av x0] σ ((tInt .i64).av v) σ'
theorem fn_law04_model_used : T.fn 50 = some Try.f50 := by kernel_rfl
def Ok_law04_model_wrong (w : Pt → law04_Call → Bool → Heap → Option (Int × Heap)) : Prop := ∀ x0 x1 x2 σ v σ', w x0 x1 x2 σ = some (v, σ') → CallOK Try.prog T 47 [tPtr.av x0, t_law04_Call.av x1, tBool.av x2] σ ((tInt .i64).av v) σ'
theorem fn_law04_model_wrong : T.fn 47 = some Try.f47 := by kernel_rfl
def Ok_law04_model_drop (w : Pt → Int → Heap → Option (Unit × Heap)) : Prop := ∀ x0 x1 σ v σ', w x0 x1 σ = some (v, σ') → CallOK Try.prog T 48 [tPtr.av x0, (tInt .i64).av x1] σ (tVoid.av v) σ'
theorem fn_law04_model_drop : T.fn 48 = some Try.f48 := by kernel_rfl
def Ok_law04_model_put (w : Pt → Int → law04_one → Heap → Option (Unit × Heap)) : Prop := ∀ x0 x1 x2 σ v σ', w x0 x1 x2 σ = some (v, σ') → CallOK Try.prog T 49 [tPtr.av x0, (tInt .i64).av x1, t_law04_one.av x2] σ (tVoid.av v) σ'
theorem fn_law04_model_put : T.fn 49 = some Try.f49 := by kernel_rfl
def Ok_law04_model_do (w : Pt → law04_Call → Heap → Option (Int × Heap)) : Prop := ∀ x0 x1 σ v σ', w x0 x1 σ = some (v, σ') → CallOK Try.prog T 26 [tPtr.av x0, t_law04_Call.av x1] σ ((tInt .i64).av v) σ'
theorem fn_law04_model_do : T.fn 26 = some Try.f26 := by kernel_rfl
def Ok_file_Store_Sure (w : Pt → ByteArray → Heap → Option (Int × Heap)) : Prop := ∀ x0 x1 σ v σ', w x0 x1 σ = some (v, σ') → CallOK Try.prog T 28 [tPtr.av x0, tStr.av x1] σ ((tInt .i64).av v) σ'
theorem fn_file_Store_Sure : T.fn 28 = some Try.f28 := by kernel_rfl
def Ok_law04_same (w : Pt → Pt → Heap → Option (Bool × Heap)) : Prop := ∀ x0 x1 σ v σ', w x0 x1 σ = some (v, σ') → CallOK Try.prog T 27 [tPtr.av x0, tPtr.av x1] σ (tBool.av v) σ'
theorem fn_law04_same : T.fn 27 = some Try.f27 := by kernel_rfl
def Ok_law04_FileRuns (w : Int → Sl → Heap → Option (Bool × Heap)) : Prop := ∀ x0 x1 σ v σ', w x0 x1 σ = some (v, σ') → CallOK Try.prog T 6 [(tInt .i64).av x0, (tSl 5).av x1] σ (tBool.av v) σ'
theorem fn_law04_FileRuns : T.fn 6 = some Try.f6 := by kernel_rfl
def Ok_law04_FileCrash (w : Sl → Sl → Heap → Option (Bool × Heap)) : Prop := ∀ x0 x1 σ v σ', w x0 x1 σ = some (v, σ') → CallOK Try.prog T 7 [(tSl 5).av x0, (tSl 1).av x1] σ (tBool.av v) σ'
theorem fn_law04_FileCrash : T.fn 7 = some Try.f7 := by kernel_rfl
def Ok_shelf_write (w : Pt → ByteArray → Sl → Heap → Option (Int × Heap)) : Prop := ∀ x0 x1 x2 σ v σ', w x0 x1 x2 σ = some (v, σ') → CallOK Try.prog T 53 [tPtr.av x0, tStr.av x1, (tSl 1).av x2] σ ((tInt .i64).av v) σ'
theorem fn_shelf_write : T.fn 53 = some Try.f53 := by kernel_rfl
def Ok_shelf_Save (w : Pt → ByteArray → Sl → Heap → Option (Int × Heap)) : Prop := ∀ x0 x1 x2 σ v σ', w x0 x1 x2 σ = some (v, σ') → CallOK Try.prog T 31 [tPtr.av x0, tStr.av x1, (tSl 1).av x2] σ ((tInt .i64).av v) σ'
theorem fn_shelf_Save : T.fn 31 = some Try.f31 := by kernel_rfl
def Ok_shelf_Names (w : Pt → Heap → Option (Sl × Heap)) : Prop := ∀ x0 σ v σ', w x0 σ = some (v, σ') → CallOK Try.prog T 35 [tPtr.av x0] σ ((tSl 1).av v) σ'
theorem fn_shelf_Names : T.fn 35 = some Try.f35 := by kernel_rfl
def Ok_law19_fit (w : Heap → Option (Bool × Heap)) : Prop := ∀ σ v σ', w σ = some (v, σ') → CallOK Try.prog T 30 [] σ (tBool.av v) σ'
theorem fn_law19_fit : T.fn 30 = some Try.f30 := by kernel_rfl
def Ok_law19_Get (w : Pt → ByteArray → Heap → Option (law19_One × Heap)) : Prop := ∀ x0 x1 σ v σ', w x0 x1 σ = some (v, σ') → CallOK Try.prog T 32 [tPtr.av x0, tStr.av x1] σ (t_law19_One.av v) σ'
theorem fn_law19_Get : T.fn 32 = some Try.f32 := by kernel_rfl
def Ok_law19_ShelfAgain (w : Sl → Sl → Heap → Option (Bool × Heap)) : Prop := ∀ x0 x1 σ v σ', w x0 x1 σ = some (v, σ') → CallOK Try.prog T 8 [(tSl 1).av x0, (tSl 1).av x1] σ (tBool.av v) σ'
theorem fn_law19_ShelfAgain : T.fn 8 = some Try.f8 := by kernel_rfl
def Ok_law19_small (w : Sl → Heap → Option (Bool × Heap)) : Prop := ∀ x0 σ v σ', w x0 σ = some (v, σ') → CallOK Try.prog T 33 [(tSl 5).av x0] σ (tBool.av v) σ'
theorem fn_law19_small : T.fn 33 = some Try.f33 := by kernel_rfl
def Ok_law19_Do (w : Pt → law04_Call → Heap → Option (Unit × Heap)) : Prop := ∀ x0 x1 σ v σ', w x0 x1 σ = some (v, σ') → CallOK Try.prog T 34 [tPtr.av x0, t_law04_Call.av x1] σ (tVoid.av v) σ'
theorem fn_law19_Do : T.fn 34 = some Try.f34 := by kernel_rfl
def Ok_law19_ShelfRuns (w : Sl → ByteArray → Sl → Heap → Option (Bool × Heap)) : Prop := ∀ x0 x1 x2 σ v σ', w x0 x1 x2 σ = some (v, σ') → CallOK Try.prog T 9 [(tSl 5).av x0, tStr.av x1, (tSl 1).av x2] σ (tBool.av v) σ'
theorem fn_law19_ShelfRuns : T.fn 9 = some Try.f9 := by kernel_rfl
def Ok_law19_ShelfLasts (w : Sl → Sl → Int → Heap → Option (Bool × Heap)) : Prop := ∀ x0 x1 x2 σ v σ', w x0 x1 x2 σ = some (v, σ') → CallOK Try.prog T 10 [(tSl 1).av x0, (tSl 5).av x1, (tInt .i64).av x2] σ (tBool.av v) σ'
theorem fn_law19_ShelfLasts : T.fn 10 = some Try.f10 := by kernel_rfl
def Ok_shelf_Sweep (w : Pt → Heap → Option (Int × Heap)) : Prop := ∀ x0 σ v σ', w x0 σ = some (v, σ') → CallOK Try.prog T 36 [tPtr.av x0] σ ((tInt .i64).av v) σ'
theorem fn_shelf_Sweep : T.fn 36 = some Try.f36 := by kernel_rfl
def Ok_law19_ShelfSweeps (w : Sl → Heap → Option (Bool × Heap)) : Prop := ∀ x0 σ v σ', w x0 σ = some (v, σ') → CallOK Try.prog T 11 [(tSl 5).av x0] σ (tBool.av v) σ'
theorem fn_law19_ShelfSweeps : T.fn 11 = some Try.f11 := by kernel_rfl
def Ok_law19_ShelfFuses (w : Sl → Sl → Arr_3_Int → Heap → Option (Bool × Heap)) : Prop := ∀ x0 x1 x2 σ v σ', w x0 x1 x2 σ = some (v, σ') → CallOK Try.prog T 12 [(tSl 5).av x0, (tSl 1).av x1, t_Arr_3_Int.av x2] σ (tBool.av v) σ'
theorem fn_law19_ShelfFuses : T.fn 12 = some Try.f12 := by kernel_rfl
def Ok_slices_Sort (w : Sl → Heap → Option (Unit × Heap)) : Prop := ∀ x0 σ v σ', w x0 σ = some (v, σ') → CallOK Try.prog T 55 [(tSl 1).av x0] σ (tVoid.av v) σ'
theorem fn_slices_Sort : T.fn 55 = some Try.f55 := by kernel_rfl
def Ok_shelf_write_1 (w : Heap → Option (Unit × Heap)) : Prop := ∀ σ v σ', w σ = some (v, σ') → CallOK Try.prog T 57 [] σ (tVoid.av v) σ'
theorem fn_shelf_write_1 : T.fn 57 = some Try.f57 := by kernel_rfl
def Ok_slices_pdqsortOrdered (w : Sl → Int → Int → Int → Heap → Option (Unit × Heap)) : Prop := ∀ x0 x1 x2 x3 σ v σ', w x0 x1 x2 x3 σ = some (v, σ') → CallOK Try.prog T 59 [(tSl 1).av x0, (tInt .i64).av x1, (tInt .i64).av x2, (tInt .i64).av x3] σ (tVoid.av v) σ'
theorem fn_slices_pdqsortOrdered : T.fn 59 = some Try.f59 := by kernel_rfl
def Ok_math_bits_Len (w : Int → Heap → Option (Int × Heap)) : Prop := ∀ x0 σ v σ', w x0 σ = some (v, σ') → CallOK Try.prog T 60 [(tInt .u64).av x0] σ ((tInt .i64).av v) σ'
theorem fn_math_bits_Len : T.fn 60 = some Try.f60 := by kernel_rfl
def Ok_slices_insertionSortOrdered (w : Sl → Int → Int → Heap → Option (Unit × Heap)) : Prop := ∀ x0 x1 x2 σ v σ', w x0 x1 x2 σ = some (v, σ') → CallOK Try.prog T 61 [(tSl 1).av x0, (tInt .i64).av x1, (tInt .i64).av x2] σ (tVoid.av v) σ'
theorem fn_slices_insertionSortOrdered : T.fn 61 = some Try.f61 := by kernel_rfl
def Ok_slices_heapSortOrdered (w : Sl → Int → Int → Heap → Option (Unit × Heap)) : Prop := ∀ x0 x1 x2 σ v σ', w x0 x1 x2 σ = some (v, σ') → CallOK Try.prog T 62 [(tSl 1).av x0, (tInt .i64).av x1, (tInt .i64).av x2] σ (tVoid.av v) σ'
theorem fn_slices_heapSortOrdered : T.fn 62 = some Try.f62 := by kernel_rfl
def Ok_slices_breakPatternsOrdered (w : Sl → Int → Int → Heap → Option (Unit × Heap)) : Prop := ∀ x0 x1 x2 σ v σ', w x0 x1 x2 σ = some (v, σ') → CallOK Try.prog T 63 [(tSl 1).av x0, (tInt .i64).av x1, (tInt .i64).av x2] σ (tVoid.av v) σ'
theorem fn_slices_breakPatternsOrdered : T.fn 63 = some Try.f63 := by kernel_rfl
def Ok_slices_choosePivotOrdered (w : Sl → Int → Int → Heap → Option ((Int × Int) × Heap)) : Prop := ∀ x0 x1 x2 σ v σ', w x0 x1 x2 σ = some (v, σ') → CallOK Try.prog T 64 [(tSl 1).av x0, (tInt .i64).av x1, (tInt .i64).av x2] σ ((tPair (tInt .i64) (tInt .i64)).av v) σ'
theorem fn_slices_choosePivotOrdered : T.fn 64 = some Try.f64 := by kernel_rfl
def Ok_slices_reverseRangeOrdered (w : Sl → Int → Int → Heap → Option (Unit × Heap)) : Prop := ∀ x0 x1 x2 σ v σ', w x0 x1 x2 σ = some (v, σ') → CallOK Try.prog T 65 [(tSl 1).av x0, (tInt .i64).av x1, (tInt .i64).av x2] σ (tVoid.av v) σ'
theorem fn_slices_reverseRangeOrdered : T.fn 65 = some Try.f65 := by kernel_rfl
def Ok_slices_partialInsertionSortOrdered (w : Sl → Int → Int → Heap → Option (Bool × Heap)) : Prop := ∀ x0 x1 x2 σ v σ', w x0 x1 x2 σ = some (v, σ') → CallOK Try.prog T 66 [(tSl 1).av x0, (tInt .i64).av x1, (tInt .i64).av x2] σ (tBool.av v) σ'
theorem fn_slices_partialInsertionSortOrdered : T.fn 66 = some Try.f66 := by kernel_rfl
def Ok_cmp_Less (w : ByteArray → ByteArray → Heap → Option (Bool × Heap)) : Prop := ∀ x0 x1 σ v σ', w x0 x1 σ = some (v, σ') → CallOK Try.prog T 67 [tStr.av x0, tStr.av x1] σ (tBool.av v) σ'
theorem fn_cmp_Less : T.fn 67 = some Try.f67 := by kernel_rfl
def Ok_slices_partitionEqualOrdered (w : Sl → Int → Int → Int → Heap → Option (Int × Heap)) : Prop := ∀ x0 x1 x2 x3 σ v σ', w x0 x1 x2 x3 σ = some (v, σ') → CallOK Try.prog T 68 [(tSl 1).av x0, (tInt .i64).av x1, (tInt .i64).av x2, (tInt .i64).av x3] σ ((tInt .i64).av v) σ'
theorem fn_slices_partitionEqualOrdered : T.fn 68 = some Try.f68 := by kernel_rfl
def Ok_slices_partitionOrdered (w : Sl → Int → Int → Int → Heap → Option ((Int × Bool) × Heap)) : Prop := ∀ x0 x1 x2 x3 σ v σ', w x0 x1 x2 x3 σ = some (v, σ') → CallOK Try.prog T 69 [(tSl 1).av x0, (tInt .i64).av x1, (tInt .i64).av x2, (tInt .i64).av x3] σ ((tPair (tInt .i64) tBool).av v) σ'
theorem fn_slices_partitionOrdered : T.fn 69 = some Try.f69 := by kernel_rfl
def Ok_math_bits_Len32 (w : Int → Heap → Option (Int × Heap)) : Prop := ∀ x0 σ v σ', w x0 σ = some (v, σ') → CallOK Try.prog T 70 [(tInt .u32).av x0] σ ((tInt .i64).av v) σ'
theorem fn_math_bits_Len32 : T.fn 70 = some Try.f70 := by kernel_rfl
def Ok_math_bits_Len64 (w : Int → Heap → Option (Int × Heap)) : Prop := ∀ x0 σ v σ', w x0 σ = some (v, σ') → CallOK Try.prog T 71 [(tInt .u64).av x0] σ ((tInt .i64).av v) σ'
theorem fn_math_bits_Len64 : T.fn 71 = some Try.f71 := by kernel_rfl
def Ok_slices_siftDownOrdered (w : Sl → Int → Int → Int → Heap → Option (Unit × Heap)) : Prop := ∀ x0 x1 x2 x3 σ v σ', w x0 x1 x2 x3 σ = some (v, σ') → CallOK Try.prog T 72 [(tSl 1).av x0, (tInt .i64).av x1, (tInt .i64).av x2, (tInt .i64).av x3] σ (tVoid.av v) σ'
theorem fn_slices_siftDownOrdered : T.fn 72 = some Try.f72 := by kernel_rfl
def Ok_slices_nextPowerOfTwo (w : Int → Heap → Option (Int × Heap)) : Prop := ∀ x0 σ v σ', w x0 σ = some (v, σ') → CallOK Try.prog T 73 [(tInt .i64).av x0] σ ((tInt .u64).av v) σ'
theorem fn_slices_nextPowerOfTwo : T.fn 73 = some Try.f73 := by kernel_rfl
def Ok_slices_xorshift_Next (w : Pt → Heap → Option (Int × Heap)) : Prop := ∀ x0 σ v σ', w x0 σ = some (v, σ') → CallOK Try.prog T 74 [tPtr.av x0] σ ((tInt .u64).av v) σ'
theorem fn_slices_xorshift_Next : T.fn 74 = some Try.f74 := by kernel_rfl
def Ok_slices_medianAdjacentOrdered (w : Sl → Int → Pt → Heap → Option (Int × Heap)) : Prop := ∀ x0 x1 x2 σ v σ', w x0 x1 x2 σ = some (v, σ') → CallOK Try.prog T 75 [(tSl 1).av x0, (tInt .i64).av x1, tPtr.av x2] σ ((tInt .i64).av v) σ'
theorem fn_slices_medianAdjacentOrdered : T.fn 75 = some Try.f75 := by kernel_rfl
structure C_file_Store_Crash where
  file_Store_Names : Pt → Heap → Option (Sl × Heap)
noncomputable def O_file_Store_Crash (w : C_file_Store_Crash) : Known := (known0).and 29 (g1 tPtr (tSl 1) w.file_Store_Names)
theorem K_file_Store_Crash (w : C_file_Store_Crash) (h_file_Store_Names : Ok_file_Store_Names w.file_Store_Names) : KnownOK Try.prog T (O_file_Store_Crash w) :=
  known_ok ok (known0_ok) fn_file_Store_Names (by kernel_rfl) (g1_ok h_file_Store_Names)
structure C_file_Store_Append where
  file_Store_Used : Pt → Heap → Option (Int × Heap)
  file_named : ByteArray → Heap → Option (Bool × Heap)
  file_Store_change : Pt → Heap → Option (Int × Heap)
noncomputable def O_file_Store_Append (w : C_file_Store_Append) : Known := (((known0).and 23 (g1 tPtr (tInt .i64) w.file_Store_Used)).and 41 (g1 tStr tBool w.file_named)).and 42 (g1 tPtr (tInt .i64) w.file_Store_change)
theorem K_file_Store_Append (w : C_file_Store_Append) (h_file_Store_Used : Ok_file_Store_Used w.file_Store_Used) (h_file_named : Ok_file_named w.file_named) (h_file_Store_change : Ok_file_Store_change w.file_Store_change) : KnownOK Try.prog T (O_file_Store_Append w) :=
  known_ok ok (known_ok ok (known_ok ok (known0_ok) fn_file_Store_Used (by kernel_rfl) (g1_ok h_file_Store_Used)) fn_file_named (by kernel_rfl) (g1_ok h_file_named)) fn_file_Store_change (by kernel_rfl) (g1_ok h_file_Store_change)
structure C_file_Store_Read where
  file_Store_find : Pt → ByteArray → Heap → Option ((Pt × Int) × Heap)
  slices_Clone : Sl → Heap → Option (Sl × Heap)
noncomputable def O_file_Store_Read (w : C_file_Store_Read) : Known := ((known0).and 43 (g2 tPtr tStr (tPair tPtr (tInt .i64)) w.file_Store_find)).and 44 (g1 (tSl 1) (tSl 1) w.slices_Clone)
theorem K_file_Store_Read (w : C_file_Store_Read) (h_file_Store_find : Ok_file_Store_find w.file_Store_find) (h_slices_Clone : Ok_slices_Clone w.slices_Clone) : KnownOK Try.prog T (O_file_Store_Read w) :=
  known_ok ok (known_ok ok (known0_ok) fn_file_Store_find (by kernel_rfl) (g2_ok h_file_Store_find)) fn_slices_Clone (by kernel_rfl) (g1_ok h_slices_Clone)
structure C_law04_fit where
  file_New : Int → Heap → Option (Pt × Heap)
  file_Store_Crash : Pt → Sl → Heap → Option (Unit × Heap)
  file_Store_Append : Pt → ByteArray → Sl → Heap → Option (Int × Heap)
  file_Store_Read : Pt → ByteArray → Heap → Option ((Sl × Int) × Heap)
  file_Store_Used : Pt → Heap → Option (Int × Heap)
  file_Store_Up : Pt → Heap → Option (Bool × Heap)
noncomputable def O_law04_fit (w : C_law04_fit) : Known := ((((((known0).and 15 (g1 (tInt .i64) tPtr w.file_New)).and 17 (g2 tPtr (tSl 1) tVoid w.file_Store_Crash)).and 18 (g3 tPtr tStr (tSl 1) (tInt .i64) w.file_Store_Append)).and 20 (g2 tPtr tStr (tPair (tSl 1) (tInt .i64)) w.file_Store_Read)).and 23 (g1 tPtr (tInt .i64) w.file_Store_Used)).and 24 (g1 tPtr tBool w.file_Store_Up)
theorem K_law04_fit (w : C_law04_fit) (h_file_New : Ok_file_New w.file_New) (h_file_Store_Crash : Ok_file_Store_Crash w.file_Store_Crash) (h_file_Store_Append : Ok_file_Store_Append w.file_Store_Append) (h_file_Store_Read : Ok_file_Store_Read w.file_Store_Read) (h_file_Store_Used : Ok_file_Store_Used w.file_Store_Used) (h_file_Store_Up : Ok_file_Store_Up w.file_Store_Up) : KnownOK Try.prog T (O_law04_fit w) :=
  known_ok ok (known_ok ok (known_ok ok (known_ok ok (known_ok ok (known_ok ok (known0_ok) fn_file_New (by kernel_rfl) (g1_ok h_file_New)) fn_file_Store_Crash (by kernel_rfl) (g2_ok h_file_Store_Crash)) fn_file_Store_Append (by kernel_rfl) (g3_ok h_file_Store_Append)) fn_file_Store_Read (by kernel_rfl) (g2_ok h_file_Store_Read)) fn_file_Store_Used (by kernel_rfl) (g1_ok h_file_Store_Used)) fn_file_Store_Up (by kernel_rfl) (g1_ok h_file_Store_Up)
structure C_file_Store_Sync where
  file_Store_change : Pt → Heap → Option (Int × Heap)
  file_Store_find : Pt → ByteArray → Heap → Option ((Pt × Int) × Heap)
noncomputable def O_file_Store_Sync (w : C_file_Store_Sync) : Known := ((known0).and 42 (g1 tPtr (tInt .i64) w.file_Store_change)).and 43 (g2 tPtr tStr (tPair tPtr (tInt .i64)) w.file_Store_find)
theorem K_file_Store_Sync (w : C_file_Store_Sync) (h_file_Store_change : Ok_file_Store_change w.file_Store_change) (h_file_Store_find : Ok_file_Store_find w.file_Store_find) : KnownOK Try.prog T (O_file_Store_Sync w) :=
  known_ok ok (known_ok ok (known0_ok) fn_file_Store_change (by kernel_rfl) (g1_ok h_file_Store_change)) fn_file_Store_find (by kernel_rfl) (g2_ok h_file_Store_find)
structure C_file_Store_Rename where
  file_named : ByteArray → Heap → Option (Bool × Heap)
  file_Store_change : Pt → Heap → Option (Int × Heap)
  file_Store_find : Pt → ByteArray → Heap → Option ((Pt × Int) × Heap)
noncomputable def O_file_Store_Rename (w : C_file_Store_Rename) : Known := (((known0).and 41 (g1 tStr tBool w.file_named)).and 42 (g1 tPtr (tInt .i64) w.file_Store_change)).and 43 (g2 tPtr tStr (tPair tPtr (tInt .i64)) w.file_Store_find)
theorem K_file_Store_Rename (w : C_file_Store_Rename) (h_file_named : Ok_file_named w.file_named) (h_file_Store_change : Ok_file_Store_change w.file_Store_change) (h_file_Store_find : Ok_file_Store_find w.file_Store_find) : KnownOK Try.prog T (O_file_Store_Rename w) :=
  known_ok ok (known_ok ok (known_ok ok (known0_ok) fn_file_named (by kernel_rfl) (g1_ok h_file_named)) fn_file_Store_change (by kernel_rfl) (g1_ok h_file_Store_change)) fn_file_Store_find (by kernel_rfl) (g2_ok h_file_Store_find)
structure C_file_Store_Delete where
  file_Store_change : Pt → Heap → Option (Int × Heap)
  file_Store_find : Pt → ByteArray → Heap → Option ((Pt × Int) × Heap)
noncomputable def O_file_Store_Delete (w : C_file_Store_Delete) : Known := ((known0).and 42 (g1 tPtr (tInt .i64) w.file_Store_change)).and 43 (g2 tPtr tStr (tPair tPtr (tInt .i64)) w.file_Store_find)
theorem K_file_Store_Delete (w : C_file_Store_Delete) (h_file_Store_change : Ok_file_Store_change w.file_Store_change) (h_file_Store_find : Ok_file_Store_find w.file_Store_find) : KnownOK Try.prog T (O_file_Store_Delete w) :=
  known_ok ok (known_ok ok (known0_ok) fn_file_Store_change (by kernel_rfl) (g1_ok h_file_Store_change)) fn_file_Store_find (by kernel_rfl) (g2_ok h_file_Store_find)
structure C_file_Store_Cut where
  file_Store_change : Pt → Heap → Option (Int × Heap)
  file_Store_find : Pt → ByteArray → Heap → Option ((Pt × Int) × Heap)
noncomputable def O_file_Store_Cut (w : C_file_Store_Cut) : Known := ((known0).and 42 (g1 tPtr (tInt .i64) w.file_Store_change)).and 43 (g2 tPtr tStr (tPair tPtr (tInt .i64)) w.file_Store_find)
theorem K_file_Store_Cut (w : C_file_Store_Cut) (h_file_Store_change : Ok_file_Store_change w.file_Store_change) (h_file_Store_find : Ok_file_Store_find w.file_Store_find) : KnownOK Try.prog T (O_file_Store_Cut w) :=
  known_ok ok (known_ok ok (known0_ok) fn_file_Store_change (by kernel_rfl) (g1_ok h_file_Store_change)) fn_file_Store_find (by kernel_rfl) (g2_ok h_file_Store_find)
structure C_law04_do where
  file_Store_Crash : Pt → Sl → Heap → Option (Unit × Heap)
  file_Store_Append : Pt → ByteArray → Sl → Heap → Option (Int × Heap)
  file_Store_Sync : Pt → ByteArray → Heap → Option (Int × Heap)
  law04_Call_kind : law04_Call → Heap → Option (Int × Heap)
  file_Store_Fuse : Pt → Int → Heap → Option (Unit × Heap)
  file_Store_Rename : Pt → ByteArray → ByteArray → Heap → Option (Int × Heap)
  file_Store_Delete : Pt → ByteArray → Heap → Option (Int × Heap)
  file_Store_Cut : Pt → ByteArray → Int → Heap → Option (Int × Heap)
  law04_Call_keeps : law04_Call → Heap → Option (Sl × Heap)
noncomputable def O_law04_do (w : C_law04_do) : Known := (((((((((known0).and 17 (g2 tPtr (tSl 1) tVoid w.file_Store_Crash)).and 18 (g3 tPtr tStr (tSl 1) (tInt .i64) w.file_Store_Append)).and 19 (g2 tPtr tStr (tInt .i64) w.file_Store_Sync)).and 21 (g1 t_law04_Call (tInt .i64) w.law04_Call_kind)).and 22 (g2 tPtr (tInt .i64) tVoid w.file_Store_Fuse)).and 37 (g3 tPtr tStr tStr (tInt .i64) w.file_Store_Rename)).and 38 (g2 tPtr tStr (tInt .i64) w.file_Store_Delete)).and 39 (g3 tPtr tStr (tInt .i64) (tInt .i64) w.file_Store_Cut)).and 40 (g1 t_law04_Call (tSl 1) w.law04_Call_keeps)
theorem K_law04_do (w : C_law04_do) (h_file_Store_Crash : Ok_file_Store_Crash w.file_Store_Crash) (h_file_Store_Append : Ok_file_Store_Append w.file_Store_Append) (h_file_Store_Sync : Ok_file_Store_Sync w.file_Store_Sync) (h_law04_Call_kind : Ok_law04_Call_kind w.law04_Call_kind) (h_file_Store_Fuse : Ok_file_Store_Fuse w.file_Store_Fuse) (h_file_Store_Rename : Ok_file_Store_Rename w.file_Store_Rename) (h_file_Store_Delete : Ok_file_Store_Delete w.file_Store_Delete) (h_file_Store_Cut : Ok_file_Store_Cut w.file_Store_Cut) (h_law04_Call_keeps : Ok_law04_Call_keeps w.law04_Call_keeps) : KnownOK Try.prog T (O_law04_do w) :=
  known_ok ok (known_ok ok (known_ok ok (known_ok ok (known_ok ok (known_ok ok (known_ok ok (known_ok ok (known_ok ok (known0_ok) fn_file_Store_Crash (by kernel_rfl) (g2_ok h_file_Store_Crash)) fn_file_Store_Append (by kernel_rfl) (g3_ok h_file_Store_Append)) fn_file_Store_Sync (by kernel_rfl) (g2_ok h_file_Store_Sync)) fn_law04_Call_kind (by kernel_rfl) (g1_ok h_law04_Call_kind)) fn_file_Store_Fuse (by kernel_rfl) (g2_ok h_file_Store_Fuse)) fn_file_Store_Rename (by kernel_rfl) (g3_ok h_file_Store_Rename)) fn_file_Store_Delete (by kernel_rfl) (g2_ok h_file_Store_Delete)) fn_file_Store_Cut (by kernel_rfl) (g3_ok h_file_Store_Cut)) fn_law04_Call_keeps (by kernel_rfl) (g1_ok h_law04_Call_keeps)
structure C_law04_FileSures where
  law04_fit : Heap → Option (Bool × Heap)
  law04_short : Sl → Heap → Option (Bool × Heap)
  file_New : Int → Heap → Option (Pt × Heap)
  law04_do : Pt → law04_Call → Heap → Option (Int × Heap)
  file_Store_Crash : Pt → Sl → Heap → Option (Unit × Heap)
  file_Store_Append : Pt → ByteArray → Sl → Heap → Option (Int × Heap)
  file_Store_Sync : Pt → ByteArray → Heap → Option (Int × Heap)
  file_Store_Read : Pt → ByteArray → Heap → Option ((Sl × Int) × Heap)
  law04_Call_kind : law04_Call → Heap → Option (Int × Heap)
noncomputable def O_law04_FileSures (w : C_law04_FileSures) : Known := (((((((((known0).and 13 (g0  tBool w.law04_fit)).and 14 (g1 (tSl 5) tBool w.law04_short)).and 15 (g1 (tInt .i64) tPtr w.file_New)).and 16 (g2 tPtr t_law04_Call (tInt .i64) w.law04_do)).and 17 (g2 tPtr (tSl 1) tVoid w.file_Store_Crash)).and 18 (g3 tPtr tStr (tSl 1) (tInt .i64) w.file_Store_Append)).and 19 (g2 tPtr tStr (tInt .i64) w.file_Store_Sync)).and 20 (g2 tPtr tStr (tPair (tSl 1) (tInt .i64)) w.file_Store_Read)).and 21 (g1 t_law04_Call (tInt .i64) w.law04_Call_kind)
theorem K_law04_FileSures (w : C_law04_FileSures) (h_law04_fit : Ok_law04_fit w.law04_fit) (h_law04_short : Ok_law04_short w.law04_short) (h_file_New : Ok_file_New w.file_New) (h_law04_do : Ok_law04_do w.law04_do) (h_file_Store_Crash : Ok_file_Store_Crash w.file_Store_Crash) (h_file_Store_Append : Ok_file_Store_Append w.file_Store_Append) (h_file_Store_Sync : Ok_file_Store_Sync w.file_Store_Sync) (h_file_Store_Read : Ok_file_Store_Read w.file_Store_Read) (h_law04_Call_kind : Ok_law04_Call_kind w.law04_Call_kind) : KnownOK Try.prog T (O_law04_FileSures w) :=
  known_ok ok (known_ok ok (known_ok ok (known_ok ok (known_ok ok (known_ok ok (known_ok ok (known_ok ok (known_ok ok (known0_ok) fn_law04_fit (by kernel_rfl) (g0_ok h_law04_fit)) fn_law04_short (by kernel_rfl) (g1_ok h_law04_short)) fn_file_New (by kernel_rfl) (g1_ok h_file_New)) fn_law04_do (by kernel_rfl) (g2_ok h_law04_do)) fn_file_Store_Crash (by kernel_rfl) (g2_ok h_file_Store_Crash)) fn_file_Store_Append (by kernel_rfl) (g3_ok h_file_Store_Append)) fn_file_Store_Sync (by kernel_rfl) (g2_ok h_file_Store_Sync)) fn_file_Store_Read (by kernel_rfl) (g2_ok h_file_Store_Read)) fn_law04_Call_kind (by kernel_rfl) (g1_ok h_law04_Call_kind)
structure C_law04_FileFuse where
  law04_fit : Heap → Option (Bool × Heap)
  law04_short : Sl → Heap → Option (Bool × Heap)
  file_New : Int → Heap → Option (Pt × Heap)
  law04_do : Pt → law04_Call → Heap → Option (Int × Heap)
  file_Store_Crash : Pt → Sl → Heap → Option (Unit × Heap)
  file_Store_Append : Pt → ByteArray → Sl → Heap → Option (Int × Heap)
  law04_Call_kind : law04_Call → Heap → Option (Int × Heap)
  file_Store_Fuse : Pt → Int → Heap → Option (Unit × Heap)
  file_Store_Used : Pt → Heap → Option (Int × Heap)
  file_Store_Up : Pt → Heap → Option (Bool × Heap)
noncomputable def O_law04_FileFuse (w : C_law04_FileFuse) : Known := ((((((((((known0).and 13 (g0  tBool w.law04_fit)).and 14 (g1 (tSl 5) tBool w.law04_short)).and 15 (g1 (tInt .i64) tPtr w.file_New)).and 16 (g2 tPtr t_law04_Call (tInt .i64) w.law04_do)).and 17 (g2 tPtr (tSl 1) tVoid w.file_Store_Crash)).and 18 (g3 tPtr tStr (tSl 1) (tInt .i64) w.file_Store_Append)).and 21 (g1 t_law04_Call (tInt .i64) w.law04_Call_kind)).and 22 (g2 tPtr (tInt .i64) tVoid w.file_Store_Fuse)).and 23 (g1 tPtr (tInt .i64) w.file_Store_Used)).and 24 (g1 tPtr tBool w.file_Store_Up)
theorem K_law04_FileFuse (w : C_law04_FileFuse) (h_law04_fit : Ok_law04_fit w.law04_fit) (h_law04_short : Ok_law04_short w.law04_short) (h_file_New : Ok_file_New w.file_New) (h_law04_do : Ok_law04_do w.law04_do) (h_file_Store_Crash : Ok_file_Store_Crash w.file_Store_Crash) (h_file_Store_Append : Ok_file_Store_Append w.file_Store_Append) (h_law04_Call_kind : Ok_law04_Call_kind w.law04_Call_kind) (h_file_Store_Fuse : Ok_file_Store_Fuse w.file_Store_Fuse) (h_file_Store_Used : Ok_file_Store_Used w.file_Store_Used) (h_file_Store_Up : Ok_file_Store_Up w.file_Store_Up) : KnownOK Try.prog T (O_law04_FileFuse w) :=
  known_ok ok (known_ok ok (known_ok ok (known_ok ok (known_ok ok (known_ok ok (known_ok ok (known_ok ok (known_ok ok (known_ok ok (known0_ok) fn_law04_fit (by kernel_rfl) (g0_ok h_law04_fit)) fn_law04_short (by kernel_rfl) (g1_ok h_law04_short)) fn_file_New (by kernel_rfl) (g1_ok h_file_New)) fn_law04_do (by kernel_rfl) (g2_ok h_law04_do)) fn_file_Store_Crash (by kernel_rfl) (g2_ok h_file_Store_Crash)) fn_file_Store_Append (by kernel_rfl) (g3_ok h_file_Store_Append)) fn_law04_Call_kind (by kernel_rfl) (g1_ok h_law04_Call_kind)) fn_file_Store_Fuse (by kernel_rfl) (g2_ok h_file_Store_Fuse)) fn_file_Store_Used (by kernel_rfl) (g1_ok h_file_Store_Used)) fn_file_Store_Up (by kernel_rfl) (g1_ok h_file_Store_Up)
structure C_law04_FileRooms where
  law04_fit : Heap → Option (Bool × Heap)
  law04_short : Sl → Heap → Option (Bool × Heap)
  file_New : Int → Heap → Option (Pt × Heap)
  law04_do : Pt → law04_Call → Heap → Option (Int × Heap)
  law04_Call_kind : law04_Call → Heap → Option (Int × Heap)
  file_Store_Used : Pt → Heap → Option (Int × Heap)
  file_Store_Up : Pt → Heap → Option (Bool × Heap)
  law04_right : ByteArray → Heap → Option (Bool × Heap)
noncomputable def O_law04_FileRooms (w : C_law04_FileRooms) : Known := ((((((((known0).and 13 (g0  tBool w.law04_fit)).and 14 (g1 (tSl 5) tBool w.law04_short)).and 15 (g1 (tInt .i64) tPtr w.file_New)).and 16 (g2 tPtr t_law04_Call (tInt .i64) w.law04_do)).and 21 (g1 t_law04_Call (tInt .i64) w.law04_Call_kind)).and 23 (g1 tPtr (tInt .i64) w.file_Store_Used)).and 24 (g1 tPtr tBool w.file_Store_Up)).and 25 (g1 tStr tBool w.law04_right)
theorem K_law04_FileRooms (w : C_law04_FileRooms) (h_law04_fit : Ok_law04_fit w.law04_fit) (h_law04_short : Ok_law04_short w.law04_short) (h_file_New : Ok_file_New w.file_New) (h_law04_do : Ok_law04_do w.law04_do) (h_law04_Call_kind : Ok_law04_Call_kind w.law04_Call_kind) (h_file_Store_Used : Ok_file_Store_Used w.file_Store_Used) (h_file_Store_Up : Ok_file_Store_Up w.file_Store_Up) (h_law04_right : Ok_law04_right w.law04_right) : KnownOK Try.prog T (O_law04_FileRooms w) :=
  known_ok ok (known_ok ok (known_ok ok (known_ok ok (known_ok ok (known_ok ok (known_ok ok (known_ok ok (known0_ok) fn_law04_fit (by kernel_rfl) (g0_ok h_law04_fit)) fn_law04_short (by kernel_rfl) (g1_ok h_law04_short)) fn_file_New (by kernel_rfl) (g1_ok h_file_New)) fn_law04_do (by kernel_rfl) (g2_ok h_law04_do)) fn_law04_Call_kind (by kernel_rfl) (g1_ok h_law04_Call_kind)) fn_file_Store_Used (by kernel_rfl) (g1_ok h_file_Store_Used)) fn_file_Store_Up (by kernel_rfl) (g1_ok h_file_Store_Up)) fn_law04_right (by kernel_rfl) (g1_ok h_law04_right)
structure C_law04_model_wrong where
  law04_Call_kind : law04_Call → Heap → Option (Int × Heap)
  law04_right : ByteArray → Heap → Option (Bool × Heap)
  law04_model_used : Pt → Heap → Option (Int × Heap)
noncomputable def O_law04_model_wrong (w : C_law04_model_wrong) : Known := (((known0).and 21 (g1 t_law04_Call (tInt .i64) w.law04_Call_kind)).and 25 (g1 tStr tBool w.law04_right)).and 50 (g1 tPtr (tInt .i64) w.law04_model_used)
theorem K_law04_model_wrong (w : C_law04_model_wrong) (h_law04_Call_kind : Ok_law04_Call_kind w.law04_Call_kind) (h_law04_right : Ok_law04_right w.law04_right) (h_law04_model_used : Ok_law04_model_used w.law04_model_used) : KnownOK Try.prog T (O_law04_model_wrong w) :=
  known_ok ok (known_ok ok (known_ok ok (known0_ok) fn_law04_Call_kind (by kernel_rfl) (g1_ok h_law04_Call_kind)) fn_law04_right (by kernel_rfl) (g1_ok h_law04_right)) fn_law04_model_used (by kernel_rfl) (g1_ok h_law04_model_used)
structure C_law04_model_do where
  law04_Call_kind : law04_Call → Heap → Option (Int × Heap)
  law04_Call_keeps : law04_Call → Heap → Option (Sl × Heap)
  law04_model_crash : Pt → Sl → Heap → Option (Unit × Heap)
  law04_model_at : Pt → ByteArray → Heap → Option ((Int × Bool) × Heap)
  law04_model_wrong : Pt → law04_Call → Bool → Heap → Option (Int × Heap)
  law04_model_drop : Pt → Int → Heap → Option (Unit × Heap)
  law04_model_put : Pt → Int → law04_one → Heap → Option (Unit × Heap)
noncomputable def O_law04_model_do (w : C_law04_model_do) : Known := (((((((known0).and 21 (g1 t_law04_Call (tInt .i64) w.law04_Call_kind)).and 40 (g1 t_law04_Call (tSl 1) w.law04_Call_keeps)).and 45 (g2 tPtr (tSl 1) tVoid w.law04_model_crash)).and 46 (g2 tPtr tStr (tPair (tInt .i64) tBool) w.law04_model_at)).and 47 (g3 tPtr t_law04_Call tBool (tInt .i64) w.law04_model_wrong)).and 48 (g2 tPtr (tInt .i64) tVoid w.law04_model_drop)).and 49 (g3 tPtr (tInt .i64) t_law04_one tVoid w.law04_model_put)
theorem K_law04_model_do (w : C_law04_model_do) (h_law04_Call_kind : Ok_law04_Call_kind w.law04_Call_kind) (h_law04_Call_keeps : Ok_law04_Call_keeps w.law04_Call_keeps) (h_law04_model_crash : Ok_law04_model_crash w.law04_model_crash) (h_law04_model_at : Ok_law04_model_at w.law04_model_at) (h_law04_model_wrong : Ok_law04_model_wrong w.law04_model_wrong) (h_law04_model_drop : Ok_law04_model_drop w.law04_model_drop) (h_law04_model_put : Ok_law04_model_put w.law04_model_put) : KnownOK Try.prog T (O_law04_model_do w) :=
  known_ok ok (known_ok ok (known_ok ok (known_ok ok (known_ok ok (known_ok ok (known_ok ok (known0_ok) fn_law04_Call_kind (by kernel_rfl) (g1_ok h_law04_Call_kind)) fn_law04_Call_keeps (by kernel_rfl) (g1_ok h_law04_Call_keeps)) fn_law04_model_crash (by kernel_rfl) (g2_ok h_law04_model_crash)) fn_law04_model_at (by kernel_rfl) (g2_ok h_law04_model_at)) fn_law04_model_wrong (by kernel_rfl) (g3_ok h_law04_model_wrong)) fn_law04_model_drop (by kernel_rfl) (g2_ok h_law04_model_drop)) fn_law04_model_put (by kernel_rfl) (g3_ok h_law04_model_put)
structure C_law04_same where
  file_Store_Read : Pt → ByteArray → Heap → Option ((Sl × Int) × Heap)
  file_Store_Used : Pt → Heap → Option (Int × Heap)
  file_Store_Up : Pt → Heap → Option (Bool × Heap)
  file_Store_Sure : Pt → ByteArray → Heap → Option (Int × Heap)
  file_Store_Names : Pt → Heap → Option (Sl × Heap)
  law04_model_used : Pt → Heap → Option (Int × Heap)
noncomputable def O_law04_same (w : C_law04_same) : Known := ((((((known0).and 20 (g2 tPtr tStr (tPair (tSl 1) (tInt .i64)) w.file_Store_Read)).and 23 (g1 tPtr (tInt .i64) w.file_Store_Used)).and 24 (g1 tPtr tBool w.file_Store_Up)).and 28 (g2 tPtr tStr (tInt .i64) w.file_Store_Sure)).and 29 (g1 tPtr (tSl 1) w.file_Store_Names)).and 50 (g1 tPtr (tInt .i64) w.law04_model_used)
theorem K_law04_same (w : C_law04_same) (h_file_Store_Read : Ok_file_Store_Read w.file_Store_Read) (h_file_Store_Used : Ok_file_Store_Used w.file_Store_Used) (h_file_Store_Up : Ok_file_Store_Up w.file_Store_Up) (h_file_Store_Sure : Ok_file_Store_Sure w.file_Store_Sure) (h_file_Store_Names : Ok_file_Store_Names w.file_Store_Names) (h_law04_model_used : Ok_law04_model_used w.law04_model_used) : KnownOK Try.prog T (O_law04_same w) :=
  known_ok ok (known_ok ok (known_ok ok (known_ok ok (known_ok ok (known_ok ok (known0_ok) fn_file_Store_Read (by kernel_rfl) (g2_ok h_file_Store_Read)) fn_file_Store_Used (by kernel_rfl) (g1_ok h_file_Store_Used)) fn_file_Store_Up (by kernel_rfl) (g1_ok h_file_Store_Up)) fn_file_Store_Sure (by kernel_rfl) (g2_ok h_file_Store_Sure)) fn_file_Store_Names (by kernel_rfl) (g1_ok h_file_Store_Names)) fn_law04_model_used (by kernel_rfl) (g1_ok h_law04_model_used)
structure C_law04_FileRuns where
  law04_fit : Heap → Option (Bool × Heap)
  law04_short : Sl → Heap → Option (Bool × Heap)
  file_New : Int → Heap → Option (Pt × Heap)
  law04_do : Pt → law04_Call → Heap → Option (Int × Heap)
  law04_model_do : Pt → law04_Call → Heap → Option (Int × Heap)
  law04_same : Pt → Pt → Heap → Option (Bool × Heap)
  file_Store_Sure : Pt → ByteArray → Heap → Option (Int × Heap)
noncomputable def O_law04_FileRuns (w : C_law04_FileRuns) : Known := (((((((known0).and 13 (g0  tBool w.law04_fit)).and 14 (g1 (tSl 5) tBool w.law04_short)).and 15 (g1 (tInt .i64) tPtr w.file_New)).and 16 (g2 tPtr t_law04_Call (tInt .i64) w.law04_do)).and 26 (g2 tPtr t_law04_Call (tInt .i64) w.law04_model_do)).and 27 (g2 tPtr tPtr tBool w.law04_same)).and 28 (g2 tPtr tStr (tInt .i64) w.file_Store_Sure)
theorem K_law04_FileRuns (w : C_law04_FileRuns) (h_law04_fit : Ok_law04_fit w.law04_fit) (h_law04_short : Ok_law04_short w.law04_short) (h_file_New : Ok_file_New w.file_New) (h_law04_do : Ok_law04_do w.law04_do) (h_law04_model_do : Ok_law04_model_do w.law04_model_do) (h_law04_same : Ok_law04_same w.law04_same) (h_file_Store_Sure : Ok_file_Store_Sure w.file_Store_Sure) : KnownOK Try.prog T (O_law04_FileRuns w) :=
  known_ok ok (known_ok ok (known_ok ok (known_ok ok (known_ok ok (known_ok ok (known_ok ok (known0_ok) fn_law04_fit (by kernel_rfl) (g0_ok h_law04_fit)) fn_law04_short (by kernel_rfl) (g1_ok h_law04_short)) fn_file_New (by kernel_rfl) (g1_ok h_file_New)) fn_law04_do (by kernel_rfl) (g2_ok h_law04_do)) fn_law04_model_do (by kernel_rfl) (g2_ok h_law04_model_do)) fn_law04_same (by kernel_rfl) (g2_ok h_law04_same)) fn_file_Store_Sure (by kernel_rfl) (g2_ok h_file_Store_Sure)
structure C_law04_FileCrash where
  law04_fit : Heap → Option (Bool × Heap)
  law04_short : Sl → Heap → Option (Bool × Heap)
  file_New : Int → Heap → Option (Pt × Heap)
  law04_do : Pt → law04_Call → Heap → Option (Int × Heap)
  file_Store_Crash : Pt → Sl → Heap → Option (Unit × Heap)
  file_Store_Read : Pt → ByteArray → Heap → Option ((Sl × Int) × Heap)
  law04_Call_kind : law04_Call → Heap → Option (Int × Heap)
  file_Store_Used : Pt → Heap → Option (Int × Heap)
  file_Store_Sure : Pt → ByteArray → Heap → Option (Int × Heap)
  file_Store_Names : Pt → Heap → Option (Sl × Heap)
noncomputable def O_law04_FileCrash (w : C_law04_FileCrash) : Known := ((((((((((known0).and 13 (g0  tBool w.law04_fit)).and 14 (g1 (tSl 5) tBool w.law04_short)).and 15 (g1 (tInt .i64) tPtr w.file_New)).and 16 (g2 tPtr t_law04_Call (tInt .i64) w.law04_do)).and 17 (g2 tPtr (tSl 1) tVoid w.file_Store_Crash)).and 20 (g2 tPtr tStr (tPair (tSl 1) (tInt .i64)) w.file_Store_Read)).and 21 (g1 t_law04_Call (tInt .i64) w.law04_Call_kind)).and 23 (g1 tPtr (tInt .i64) w.file_Store_Used)).and 28 (g2 tPtr tStr (tInt .i64) w.file_Store_Sure)).and 29 (g1 tPtr (tSl 1) w.file_Store_Names)
theorem K_law04_FileCrash (w : C_law04_FileCrash) (h_law04_fit : Ok_law04_fit w.law04_fit) (h_law04_short : Ok_law04_short w.law04_short) (h_file_New : Ok_file_New w.file_New) (h_law04_do : Ok_law04_do w.law04_do) (h_file_Store_Crash : Ok_file_Store_Crash w.file_Store_Crash) (h_file_Store_Read : Ok_file_Store_Read w.file_Store_Read) (h_law04_Call_kind : Ok_law04_Call_kind w.law04_Call_kind) (h_file_Store_Used : Ok_file_Store_Used w.file_Store_Used) (h_file_Store_Sure : Ok_file_Store_Sure w.file_Store_Sure) (h_file_Store_Names : Ok_file_Store_Names w.file_Store_Names) : KnownOK Try.prog T (O_law04_FileCrash w) :=
  known_ok ok (known_ok ok (known_ok ok (known_ok ok (known_ok ok (known_ok ok (known_ok ok (known_ok ok (known_ok ok (known_ok ok (known0_ok) fn_law04_fit (by kernel_rfl) (g0_ok h_law04_fit)) fn_law04_short (by kernel_rfl) (g1_ok h_law04_short)) fn_file_New (by kernel_rfl) (g1_ok h_file_New)) fn_law04_do (by kernel_rfl) (g2_ok h_law04_do)) fn_file_Store_Crash (by kernel_rfl) (g2_ok h_file_Store_Crash)) fn_file_Store_Read (by kernel_rfl) (g2_ok h_file_Store_Read)) fn_law04_Call_kind (by kernel_rfl) (g1_ok h_law04_Call_kind)) fn_file_Store_Used (by kernel_rfl) (g1_ok h_file_Store_Used)) fn_file_Store_Sure (by kernel_rfl) (g2_ok h_file_Store_Sure)) fn_file_Store_Names (by kernel_rfl) (g1_ok h_file_Store_Names)
structure C_shelf_Save where
  shelf_write : Pt → ByteArray → Sl → Heap → Option (Int × Heap)
noncomputable def O_shelf_Save (w : C_shelf_Save) : Known := (known0).and 53 (g3 tPtr tStr (tSl 1) (tInt .i64) w.shelf_write)
theorem K_shelf_Save (w : C_shelf_Save) (h_shelf_write : Ok_shelf_write w.shelf_write) : KnownOK Try.prog T (O_shelf_Save w) :=
  known_ok ok (known0_ok) fn_shelf_write (by kernel_rfl) (g3_ok h_shelf_write)
structure C_shelf_Names where
  file_Store_Names : Pt → Heap → Option (Sl × Heap)
noncomputable def O_shelf_Names (w : C_shelf_Names) : Known := (known0).and 29 (g1 tPtr (tSl 1) w.file_Store_Names)
theorem K_shelf_Names (w : C_shelf_Names) (h_file_Store_Names : Ok_file_Store_Names w.file_Store_Names) : KnownOK Try.prog T (O_shelf_Names w) :=
  known_ok ok (known0_ok) fn_file_Store_Names (by kernel_rfl) (g1_ok h_file_Store_Names)
structure C_law19_fit where
  file_New : Int → Heap → Option (Pt × Heap)
  file_Store_Crash : Pt → Sl → Heap → Option (Unit × Heap)
  file_Store_Read : Pt → ByteArray → Heap → Option ((Sl × Int) × Heap)
  shelf_Save : Pt → ByteArray → Sl → Heap → Option (Int × Heap)
  shelf_Names : Pt → Heap → Option (Sl × Heap)
noncomputable def O_law19_fit (w : C_law19_fit) : Known := (((((known0).and 15 (g1 (tInt .i64) tPtr w.file_New)).and 17 (g2 tPtr (tSl 1) tVoid w.file_Store_Crash)).and 20 (g2 tPtr tStr (tPair (tSl 1) (tInt .i64)) w.file_Store_Read)).and 31 (g3 tPtr tStr (tSl 1) (tInt .i64) w.shelf_Save)).and 35 (g1 tPtr (tSl 1) w.shelf_Names)
theorem K_law19_fit (w : C_law19_fit) (h_file_New : Ok_file_New w.file_New) (h_file_Store_Crash : Ok_file_Store_Crash w.file_Store_Crash) (h_file_Store_Read : Ok_file_Store_Read w.file_Store_Read) (h_shelf_Save : Ok_shelf_Save w.shelf_Save) (h_shelf_Names : Ok_shelf_Names w.shelf_Names) : KnownOK Try.prog T (O_law19_fit w) :=
  known_ok ok (known_ok ok (known_ok ok (known_ok ok (known_ok ok (known0_ok) fn_file_New (by kernel_rfl) (g1_ok h_file_New)) fn_file_Store_Crash (by kernel_rfl) (g2_ok h_file_Store_Crash)) fn_file_Store_Read (by kernel_rfl) (g2_ok h_file_Store_Read)) fn_shelf_Save (by kernel_rfl) (g3_ok h_shelf_Save)) fn_shelf_Names (by kernel_rfl) (g1_ok h_shelf_Names)
structure C_law19_Get where
  file_Store_Read : Pt → ByteArray → Heap → Option ((Sl × Int) × Heap)
  file_Store_Sure : Pt → ByteArray → Heap → Option (Int × Heap)
noncomputable def O_law19_Get (w : C_law19_Get) : Known := ((known0).and 20 (g2 tPtr tStr (tPair (tSl 1) (tInt .i64)) w.file_Store_Read)).and 28 (g2 tPtr tStr (tInt .i64) w.file_Store_Sure)
theorem K_law19_Get (w : C_law19_Get) (h_file_Store_Read : Ok_file_Store_Read w.file_Store_Read) (h_file_Store_Sure : Ok_file_Store_Sure w.file_Store_Sure) : KnownOK Try.prog T (O_law19_Get w) :=
  known_ok ok (known_ok ok (known0_ok) fn_file_Store_Read (by kernel_rfl) (g2_ok h_file_Store_Read)) fn_file_Store_Sure (by kernel_rfl) (g2_ok h_file_Store_Sure)
structure C_law19_ShelfAgain where
  file_New : Int → Heap → Option (Pt × Heap)
  file_Store_Crash : Pt → Sl → Heap → Option (Unit × Heap)
  file_Store_Fuse : Pt → Int → Heap → Option (Unit × Heap)
  law19_fit : Heap → Option (Bool × Heap)
  shelf_Save : Pt → ByteArray → Sl → Heap → Option (Int × Heap)
  law19_Get : Pt → ByteArray → Heap → Option (law19_One × Heap)
noncomputable def O_law19_ShelfAgain (w : C_law19_ShelfAgain) : Known := ((((((known0).and 15 (g1 (tInt .i64) tPtr w.file_New)).and 17 (g2 tPtr (tSl 1) tVoid w.file_Store_Crash)).and 22 (g2 tPtr (tInt .i64) tVoid w.file_Store_Fuse)).and 30 (g0  tBool w.law19_fit)).and 31 (g3 tPtr tStr (tSl 1) (tInt .i64) w.shelf_Save)).and 32 (g2 tPtr tStr t_law19_One w.law19_Get)
theorem K_law19_ShelfAgain (w : C_law19_ShelfAgain) (h_file_New : Ok_file_New w.file_New) (h_file_Store_Crash : Ok_file_Store_Crash w.file_Store_Crash) (h_file_Store_Fuse : Ok_file_Store_Fuse w.file_Store_Fuse) (h_law19_fit : Ok_law19_fit w.law19_fit) (h_shelf_Save : Ok_shelf_Save w.shelf_Save) (h_law19_Get : Ok_law19_Get w.law19_Get) : KnownOK Try.prog T (O_law19_ShelfAgain w) :=
  known_ok ok (known_ok ok (known_ok ok (known_ok ok (known_ok ok (known_ok ok (known0_ok) fn_file_New (by kernel_rfl) (g1_ok h_file_New)) fn_file_Store_Crash (by kernel_rfl) (g2_ok h_file_Store_Crash)) fn_file_Store_Fuse (by kernel_rfl) (g2_ok h_file_Store_Fuse)) fn_law19_fit (by kernel_rfl) (g0_ok h_law19_fit)) fn_shelf_Save (by kernel_rfl) (g3_ok h_shelf_Save)) fn_law19_Get (by kernel_rfl) (g2_ok h_law19_Get)
structure C_law19_Do where
  file_Store_Append : Pt → ByteArray → Sl → Heap → Option (Int × Heap)
  file_Store_Sync : Pt → ByteArray → Heap → Option (Int × Heap)
  file_Store_Rename : Pt → ByteArray → ByteArray → Heap → Option (Int × Heap)
  file_Store_Delete : Pt → ByteArray → Heap → Option (Int × Heap)
  file_Store_Cut : Pt → ByteArray → Int → Heap → Option (Int × Heap)
noncomputable def O_law19_Do (w : C_law19_Do) : Known := (((((known0).and 18 (g3 tPtr tStr (tSl 1) (tInt .i64) w.file_Store_Append)).and 19 (g2 tPtr tStr (tInt .i64) w.file_Store_Sync)).and 37 (g3 tPtr tStr tStr (tInt .i64) w.file_Store_Rename)).and 38 (g2 tPtr tStr (tInt .i64) w.file_Store_Delete)).and 39 (g3 tPtr tStr (tInt .i64) (tInt .i64) w.file_Store_Cut)
theorem K_law19_Do (w : C_law19_Do) (h_file_Store_Append : Ok_file_Store_Append w.file_Store_Append) (h_file_Store_Sync : Ok_file_Store_Sync w.file_Store_Sync) (h_file_Store_Rename : Ok_file_Store_Rename w.file_Store_Rename) (h_file_Store_Delete : Ok_file_Store_Delete w.file_Store_Delete) (h_file_Store_Cut : Ok_file_Store_Cut w.file_Store_Cut) : KnownOK Try.prog T (O_law19_Do w) :=
  known_ok ok (known_ok ok (known_ok ok (known_ok ok (known_ok ok (known0_ok) fn_file_Store_Append (by kernel_rfl) (g3_ok h_file_Store_Append)) fn_file_Store_Sync (by kernel_rfl) (g2_ok h_file_Store_Sync)) fn_file_Store_Rename (by kernel_rfl) (g3_ok h_file_Store_Rename)) fn_file_Store_Delete (by kernel_rfl) (g2_ok h_file_Store_Delete)) fn_file_Store_Cut (by kernel_rfl) (g3_ok h_file_Store_Cut)
structure C_law19_ShelfRuns where
  file_New : Int → Heap → Option (Pt × Heap)
  file_Store_Used : Pt → Heap → Option (Int × Heap)
  law19_fit : Heap → Option (Bool × Heap)
  shelf_Save : Pt → ByteArray → Sl → Heap → Option (Int × Heap)
  law19_Get : Pt → ByteArray → Heap → Option (law19_One × Heap)
  law19_small : Sl → Heap → Option (Bool × Heap)
  law19_Do : Pt → law04_Call → Heap → Option (Unit × Heap)
  shelf_Names : Pt → Heap → Option (Sl × Heap)
noncomputable def O_law19_ShelfRuns (w : C_law19_ShelfRuns) : Known := ((((((((known0).and 15 (g1 (tInt .i64) tPtr w.file_New)).and 23 (g1 tPtr (tInt .i64) w.file_Store_Used)).and 30 (g0  tBool w.law19_fit)).and 31 (g3 tPtr tStr (tSl 1) (tInt .i64) w.shelf_Save)).and 32 (g2 tPtr tStr t_law19_One w.law19_Get)).and 33 (g1 (tSl 5) tBool w.law19_small)).and 34 (g2 tPtr t_law04_Call tVoid w.law19_Do)).and 35 (g1 tPtr (tSl 1) w.shelf_Names)
theorem K_law19_ShelfRuns (w : C_law19_ShelfRuns) (h_file_New : Ok_file_New w.file_New) (h_file_Store_Used : Ok_file_Store_Used w.file_Store_Used) (h_law19_fit : Ok_law19_fit w.law19_fit) (h_shelf_Save : Ok_shelf_Save w.shelf_Save) (h_law19_Get : Ok_law19_Get w.law19_Get) (h_law19_small : Ok_law19_small w.law19_small) (h_law19_Do : Ok_law19_Do w.law19_Do) (h_shelf_Names : Ok_shelf_Names w.shelf_Names) : KnownOK Try.prog T (O_law19_ShelfRuns w) :=
  known_ok ok (known_ok ok (known_ok ok (known_ok ok (known_ok ok (known_ok ok (known_ok ok (known_ok ok (known0_ok) fn_file_New (by kernel_rfl) (g1_ok h_file_New)) fn_file_Store_Used (by kernel_rfl) (g1_ok h_file_Store_Used)) fn_law19_fit (by kernel_rfl) (g0_ok h_law19_fit)) fn_shelf_Save (by kernel_rfl) (g3_ok h_shelf_Save)) fn_law19_Get (by kernel_rfl) (g2_ok h_law19_Get)) fn_law19_small (by kernel_rfl) (g1_ok h_law19_small)) fn_law19_Do (by kernel_rfl) (g2_ok h_law19_Do)) fn_shelf_Names (by kernel_rfl) (g1_ok h_shelf_Names)
structure C_law19_ShelfLasts where
  file_New : Int → Heap → Option (Pt × Heap)
  file_Store_Crash : Pt → Sl → Heap → Option (Unit × Heap)
  law19_fit : Heap → Option (Bool × Heap)
  shelf_Save : Pt → ByteArray → Sl → Heap → Option (Int × Heap)
  law19_Get : Pt → ByteArray → Heap → Option (law19_One × Heap)
  law19_small : Sl → Heap → Option (Bool × Heap)
  law19_Do : Pt → law04_Call → Heap → Option (Unit × Heap)
noncomputable def O_law19_ShelfLasts (w : C_law19_ShelfLasts) : Known := (((((((known0).and 15 (g1 (tInt .i64) tPtr w.file_New)).and 17 (g2 tPtr (tSl 1) tVoid w.file_Store_Crash)).and 30 (g0  tBool w.law19_fit)).and 31 (g3 tPtr tStr (tSl 1) (tInt .i64) w.shelf_Save)).and 32 (g2 tPtr tStr t_law19_One w.law19_Get)).and 33 (g1 (tSl 5) tBool w.law19_small)).and 34 (g2 tPtr t_law04_Call tVoid w.law19_Do)
theorem K_law19_ShelfLasts (w : C_law19_ShelfLasts) (h_file_New : Ok_file_New w.file_New) (h_file_Store_Crash : Ok_file_Store_Crash w.file_Store_Crash) (h_law19_fit : Ok_law19_fit w.law19_fit) (h_shelf_Save : Ok_shelf_Save w.shelf_Save) (h_law19_Get : Ok_law19_Get w.law19_Get) (h_law19_small : Ok_law19_small w.law19_small) (h_law19_Do : Ok_law19_Do w.law19_Do) : KnownOK Try.prog T (O_law19_ShelfLasts w) :=
  known_ok ok (known_ok ok (known_ok ok (known_ok ok (known_ok ok (known_ok ok (known_ok ok (known0_ok) fn_file_New (by kernel_rfl) (g1_ok h_file_New)) fn_file_Store_Crash (by kernel_rfl) (g2_ok h_file_Store_Crash)) fn_law19_fit (by kernel_rfl) (g0_ok h_law19_fit)) fn_shelf_Save (by kernel_rfl) (g3_ok h_shelf_Save)) fn_law19_Get (by kernel_rfl) (g2_ok h_law19_Get)) fn_law19_small (by kernel_rfl) (g1_ok h_law19_small)) fn_law19_Do (by kernel_rfl) (g2_ok h_law19_Do)
structure C_shelf_Sweep where
  file_Store_Delete : Pt → ByteArray → Heap → Option (Int × Heap)
noncomputable def O_shelf_Sweep (w : C_shelf_Sweep) : Known := (known0).and 38 (g2 tPtr tStr (tInt .i64) w.file_Store_Delete)
theorem K_shelf_Sweep (w : C_shelf_Sweep) (h_file_Store_Delete : Ok_file_Store_Delete w.file_Store_Delete) : KnownOK Try.prog T (O_shelf_Sweep w) :=
  known_ok ok (known0_ok) fn_file_Store_Delete (by kernel_rfl) (g2_ok h_file_Store_Delete)
structure C_law19_ShelfSweeps where
  file_New : Int → Heap → Option (Pt × Heap)
  file_Store_Names : Pt → Heap → Option (Sl × Heap)
  law19_fit : Heap → Option (Bool × Heap)
  law19_Get : Pt → ByteArray → Heap → Option (law19_One × Heap)
  law19_small : Sl → Heap → Option (Bool × Heap)
  law19_Do : Pt → law04_Call → Heap → Option (Unit × Heap)
  shelf_Names : Pt → Heap → Option (Sl × Heap)
  shelf_Sweep : Pt → Heap → Option (Int × Heap)
noncomputable def O_law19_ShelfSweeps (w : C_law19_ShelfSweeps) : Known := ((((((((known0).and 15 (g1 (tInt .i64) tPtr w.file_New)).and 29 (g1 tPtr (tSl 1) w.file_Store_Names)).and 30 (g0  tBool w.law19_fit)).and 32 (g2 tPtr tStr t_law19_One w.law19_Get)).and 33 (g1 (tSl 5) tBool w.law19_small)).and 34 (g2 tPtr t_law04_Call tVoid w.law19_Do)).and 35 (g1 tPtr (tSl 1) w.shelf_Names)).and 36 (g1 tPtr (tInt .i64) w.shelf_Sweep)
theorem K_law19_ShelfSweeps (w : C_law19_ShelfSweeps) (h_file_New : Ok_file_New w.file_New) (h_file_Store_Names : Ok_file_Store_Names w.file_Store_Names) (h_law19_fit : Ok_law19_fit w.law19_fit) (h_law19_Get : Ok_law19_Get w.law19_Get) (h_law19_small : Ok_law19_small w.law19_small) (h_law19_Do : Ok_law19_Do w.law19_Do) (h_shelf_Names : Ok_shelf_Names w.shelf_Names) (h_shelf_Sweep : Ok_shelf_Sweep w.shelf_Sweep) : KnownOK Try.prog T (O_law19_ShelfSweeps w) :=
  known_ok ok (known_ok ok (known_ok ok (known_ok ok (known_ok ok (known_ok ok (known_ok ok (known_ok ok (known0_ok) fn_file_New (by kernel_rfl) (g1_ok h_file_New)) fn_file_Store_Names (by kernel_rfl) (g1_ok h_file_Store_Names)) fn_law19_fit (by kernel_rfl) (g0_ok h_law19_fit)) fn_law19_Get (by kernel_rfl) (g2_ok h_law19_Get)) fn_law19_small (by kernel_rfl) (g1_ok h_law19_small)) fn_law19_Do (by kernel_rfl) (g2_ok h_law19_Do)) fn_shelf_Names (by kernel_rfl) (g1_ok h_shelf_Names)) fn_shelf_Sweep (by kernel_rfl) (g1_ok h_shelf_Sweep)
structure C_law19_ShelfFuses where
  file_New : Int → Heap → Option (Pt × Heap)
  file_Store_Crash : Pt → Sl → Heap → Option (Unit × Heap)
  file_Store_Fuse : Pt → Int → Heap → Option (Unit × Heap)
  file_Store_Up : Pt → Heap → Option (Bool × Heap)
  law19_fit : Heap → Option (Bool × Heap)
  shelf_Save : Pt → ByteArray → Sl → Heap → Option (Int × Heap)
  law19_Get : Pt → ByteArray → Heap → Option (law19_One × Heap)
  law19_small : Sl → Heap → Option (Bool × Heap)
  law19_Do : Pt → law04_Call → Heap → Option (Unit × Heap)
noncomputable def O_law19_ShelfFuses (w : C_law19_ShelfFuses) : Known := (((((((((known0).and 15 (g1 (tInt .i64) tPtr w.file_New)).and 17 (g2 tPtr (tSl 1) tVoid w.file_Store_Crash)).and 22 (g2 tPtr (tInt .i64) tVoid w.file_Store_Fuse)).and 24 (g1 tPtr tBool w.file_Store_Up)).and 30 (g0  tBool w.law19_fit)).and 31 (g3 tPtr tStr (tSl 1) (tInt .i64) w.shelf_Save)).and 32 (g2 tPtr tStr t_law19_One w.law19_Get)).and 33 (g1 (tSl 5) tBool w.law19_small)).and 34 (g2 tPtr t_law04_Call tVoid w.law19_Do)
theorem K_law19_ShelfFuses (w : C_law19_ShelfFuses) (h_file_New : Ok_file_New w.file_New) (h_file_Store_Crash : Ok_file_Store_Crash w.file_Store_Crash) (h_file_Store_Fuse : Ok_file_Store_Fuse w.file_Store_Fuse) (h_file_Store_Up : Ok_file_Store_Up w.file_Store_Up) (h_law19_fit : Ok_law19_fit w.law19_fit) (h_shelf_Save : Ok_shelf_Save w.shelf_Save) (h_law19_Get : Ok_law19_Get w.law19_Get) (h_law19_small : Ok_law19_small w.law19_small) (h_law19_Do : Ok_law19_Do w.law19_Do) : KnownOK Try.prog T (O_law19_ShelfFuses w) :=
  known_ok ok (known_ok ok (known_ok ok (known_ok ok (known_ok ok (known_ok ok (known_ok ok (known_ok ok (known_ok ok (known0_ok) fn_file_New (by kernel_rfl) (g1_ok h_file_New)) fn_file_Store_Crash (by kernel_rfl) (g2_ok h_file_Store_Crash)) fn_file_Store_Fuse (by kernel_rfl) (g2_ok h_file_Store_Fuse)) fn_file_Store_Up (by kernel_rfl) (g1_ok h_file_Store_Up)) fn_law19_fit (by kernel_rfl) (g0_ok h_law19_fit)) fn_shelf_Save (by kernel_rfl) (g3_ok h_shelf_Save)) fn_law19_Get (by kernel_rfl) (g2_ok h_law19_Get)) fn_law19_small (by kernel_rfl) (g1_ok h_law19_small)) fn_law19_Do (by kernel_rfl) (g2_ok h_law19_Do)
end Go.Abs.TC
