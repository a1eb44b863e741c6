import Derived.Test.YtcfohnfnajfahaaDoorTabA
import Derived.Test.YtcfohnfnajfahaaDoorAbs24
namespace Go.Abs.TA
open Go Go.Abs
def wideInts : List Int := [4352, 4447, 11904, 42191, 44032, 55203, 63744, 64255, 65072, 65135, 65280, 65376, 65504, 65510, 127744, 128591, 131072, 262141]
def wideRow : List AVal := wideInts.map fun n => .int .i32 n
def none0 : Known := fun _ => none
def obs (x : Option (AVal × Heap)) : Option Bool := match x with | some (.bool b, _) => some b | _ => none
theorem fit8 : obs (callC T none0 50 17 [] [.row wideRow .ro] (fun v σ => some (v, σ))) = some true := by kernel_rfl
end Go.Abs.TA
