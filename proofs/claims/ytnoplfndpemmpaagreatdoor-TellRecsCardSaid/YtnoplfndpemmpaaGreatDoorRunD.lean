/-
A closed run: the fit.
-/
import Derived.Test.YtnoplfndpemmpaaGreatDoorRun8
import Derived.KernelRfl
namespace Go.Abs.TE
open Go Go.Abs Go.Proofs
set_option maxRecDepth 1000000 in
theorem stageD : obs (callC (R := AVal × Heap) T2 okf 1000 60 14 [] heap0 (fun v σ => some (v, σ))) = some true := by kernel_rfl
end Go.Abs.TE
