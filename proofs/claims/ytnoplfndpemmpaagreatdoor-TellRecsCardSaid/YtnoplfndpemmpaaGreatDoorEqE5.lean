/-
Lifted functions: what the machine does, one equation for each entry and each loop (printed by lift.py).
-/
import Derived.Test.YtnoplfndpemmpaaGreatDoorSigE
namespace Go.Abs.TE
open Go Go.Abs Go.Proofs
end Go.Abs.TE
