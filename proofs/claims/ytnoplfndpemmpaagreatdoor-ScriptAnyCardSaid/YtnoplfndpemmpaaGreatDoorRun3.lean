/-
A closed run: the law's own.
-/
import Derived.Test.YtnoplfndpemmpaaGreatDoorMRun
namespace Go.Abs.TE
open Go Go.Abs Go.Proofs
set_option maxRecDepth 1000000 in
theorem stage2 : obs (callC (R := AVal × Heap) T2 okn2 1000 60 7 [] heap0 (fun v σ => some (v, σ))) = some true := by kernel_rfl
end Go.Abs.TE
