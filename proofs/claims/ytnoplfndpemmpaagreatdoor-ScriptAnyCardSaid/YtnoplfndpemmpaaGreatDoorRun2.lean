/-
A closed run: the first pane opens.
-/
import Derived.Test.YtnoplfndpemmpaaGreatDoorMRun
namespace Go.Abs.TE
open Go Go.Abs Go.Proofs
set_option maxRecDepth 1000000 in
theorem stage1 : isRun (callC (R := AVal × Heap) T2 okn 1000 40 47 s1a s1h (fun v σ => some (v, σ))) s2v s2h = true := by kernel_rfl
end Go.Abs.TE
