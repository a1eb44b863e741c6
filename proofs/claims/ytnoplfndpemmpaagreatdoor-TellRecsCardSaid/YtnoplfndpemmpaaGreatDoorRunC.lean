/-
A closed run: what is told of it.
-/
import Derived.Test.YtnoplfndpemmpaaGreatDoorRun8
import Derived.KernelRfl
namespace Go.Abs.TE
open Go Go.Abs Go.Proofs
set_option maxRecDepth 1000000 in
theorem stageC : seeS (callC (R := AVal × Heap) T2 okr 1000 60 35 [.int .i64 0, .slice none 0 0 0] heap0 (fun v σ => some (v, σ))) = some (strR, true) := by kernel_rfl
end Go.Abs.TE
