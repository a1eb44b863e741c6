/-
The grid laws' own fit is true: a closed call, run by the kernel.
-/
import Derived.Test.YtcfohnfnajfahaaDoorConA1
namespace Go.Abs.TA
open Go Go.Abs Go.Proofs
def obs (x : Option (AVal × Heap)) : Option Bool := match x with | some (.bool b, _) => some b | _ => none
theorem fit9 : obs (callC T known0 100 20 35 [] [.row wideRow .ro] (fun v σ => some (v, σ))) = some true := by kernel_rfl
end Go.Abs.TA
