/-
A closed run: a multiplexer without room.
-/
import Derived.Test.YtnoplfndpemmpaaGreatDoorRun8
import Derived.KernelRfl
namespace Go.Abs.TE
open Go Go.Abs Go.Proofs
set_option maxRecDepth 1000000 in
theorem stageB : seeP (callC (R := AVal × Heap) T2 okr 1000 60 24 [.int .i64 0] heap0 (fun v σ => some (v, σ))) = some (some (41, 0), true) := by kernel_rfl
end Go.Abs.TE
