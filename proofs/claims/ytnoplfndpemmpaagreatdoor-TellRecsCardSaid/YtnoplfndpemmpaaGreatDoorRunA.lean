/-
A closed run: the first pane opens, there is no room.
-/
import Derived.Test.YtnoplfndpemmpaaGreatDoorRun8
import Derived.KernelRfl
namespace Go.Abs.TE
open Go Go.Abs Go.Proofs
set_option maxRecDepth 1000000 in
theorem stageA : isRun (callC (R := AVal × Heap) T2 okn 1000 40 47 r1a r1h (fun v σ => some (v, σ))) r2v r2h = true := by kernel_rfl
end Go.Abs.TE
