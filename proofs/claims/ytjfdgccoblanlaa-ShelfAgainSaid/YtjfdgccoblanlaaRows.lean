/-
  No cell of these rows narrows 'for every input' (looked for: loops, veiled, ifaces, maps, wideKeys, modest, calm, conditions, laid).
  DERIVED. THE GIVEN ROWS OF THIS SEAT. 10 by the template 'for every input the law returns true; each argument reads behind the call as it read before'; 0 by the template 'total and deterministic' (their statements: YtjfdgccoblanlaaTotals.lean).
  GIVEN WITH THE SEED: the statements are not yours to turn. If you find one false, say at which input.
  Laid BY PROGRAM, IN A SANDBOX (cutbox-rows.mjs): the forced cells as the released guide's own fill.sh prints them over the translation 06b95cc61fdebd01… (all of the seat's roots in one cut). By AI agents, Wed Nov 11 2026. No macro, syntax, notation, axiom, sorry.
-/
import Derived.Test.YtjfdgccoblanlaaChecked
import GoSem.Claim
import GoSem.ClaimJoined
import GoSem.ClaimMapViews
import Derived.JoinedTies
import Derived.KernelRfl
namespace Go.Proofs.Ytjfdgccoblanlaa
/- THE CELL 'sum', in the pinned program and in every row, IS THE sha256 OF THE DUMP (.gsa) THAT YtjfdgccoblanlaaProg.lean LOADS. Nothing in Lean hashes anything: it is a label: what it is worth is what the hold of that sum in a sandbox is worth. -/
noncomputable def Try.pinned : Pinned := { name := "ytjfdgccoblanlaa", sum := "06b95cc61fdebd0175a3864f64e5df4a1ec12677b634a2ce1a62f4aa10e4e555", checked := Try.checked }
namespace Rows
def none {H : Type} : Left H := { results := [], args := [] }

/-- 'flipbooklaw04.FileSures': WHATEVER THE INPUT: true; the input reads as it did. -/
def fileSuresSpec : ChangeSpec := { name := "fileSures", fn := fun _ => fun
  | [d1, d2, d3] => { results := [.lit (.bool true)], args := [d1, d2, d3] }
  | _ => none }
def fileSuresRow : OpenClaim := { program := "ytjfdgccoblanlaa", sum := "06b95cc61fdebd0175a3864f64e5df4a1ec12677b634a2ce1a62f4aa10e4e555", func := "flipbook/flipbooklaw04.FileSures", spec := "fileSures", unfollowed := true, recurses := true, apart := false }
def FileSuresSaid : Prop := fileSuresRow.holds Try.pinned (OpenSpec.ofChange fileSuresSpec)

/-- ITS FALSE NEIGHBOUR: 'it returns false'. Refute it at one input. -/
def fileSuresWrong : ChangeSpec := { name := "fileSures", fn := fun _ => fun
  | [d1, d2, d3] => { results := [.lit (.bool false)], args := [d1, d2, d3] }
  | _ => none }
def FileSuresWrongFalsely : Prop := fileSuresRow.holds Try.pinned (OpenSpec.ofChange fileSuresWrong)

/-- 'flipbooklaw04.FileFuse': WHATEVER THE INPUT: true; the input reads as it did. -/
def fileFuseSpec : ChangeSpec := { name := "fileFuse", fn := fun _ => fun
  | [d1, d2] => { results := [.lit (.bool true)], args := [d1, d2] }
  | _ => none }
def fileFuseRow : OpenClaim := { program := "ytjfdgccoblanlaa", sum := "06b95cc61fdebd0175a3864f64e5df4a1ec12677b634a2ce1a62f4aa10e4e555", func := "flipbook/flipbooklaw04.FileFuse", spec := "fileFuse", unfollowed := true, recurses := true, apart := false }
def FileFuseSaid : Prop := fileFuseRow.holds Try.pinned (OpenSpec.ofChange fileFuseSpec)

/-- ITS FALSE NEIGHBOUR: 'it returns false'. Refute it at one input. -/
def fileFuseWrong : ChangeSpec := { name := "fileFuse", fn := fun _ => fun
  | [d1, d2] => { results := [.lit (.bool false)], args := [d1, d2] }
  | _ => none }
def FileFuseWrongFalsely : Prop := fileFuseRow.holds Try.pinned (OpenSpec.ofChange fileFuseWrong)

/-- 'flipbooklaw04.FileRooms': WHATEVER THE INPUT: true; the input reads as it did. -/
def fileRoomsSpec : ChangeSpec := { name := "fileRooms", fn := fun _ => fun
  | [d1, d2] => { results := [.lit (.bool true)], args := [d1, d2] }
  | _ => none }
def fileRoomsRow : OpenClaim := { program := "ytjfdgccoblanlaa", sum := "06b95cc61fdebd0175a3864f64e5df4a1ec12677b634a2ce1a62f4aa10e4e555", func := "flipbook/flipbooklaw04.FileRooms", spec := "fileRooms", unfollowed := true, recurses := true, apart := false }
def FileRoomsSaid : Prop := fileRoomsRow.holds Try.pinned (OpenSpec.ofChange fileRoomsSpec)

/-- ITS FALSE NEIGHBOUR: 'it returns false'. Refute it at one input. -/
def fileRoomsWrong : ChangeSpec := { name := "fileRooms", fn := fun _ => fun
  | [d1, d2] => { results := [.lit (.bool false)], args := [d1, d2] }
  | _ => none }
def FileRoomsWrongFalsely : Prop := fileRoomsRow.holds Try.pinned (OpenSpec.ofChange fileRoomsWrong)

/-- 'flipbooklaw04.FileRuns': WHATEVER THE INPUT: true; the input reads as it did. -/
def fileRunsSpec : ChangeSpec := { name := "fileRuns", fn := fun _ => fun
  | [d1, d2] => { results := [.lit (.bool true)], args := [d1, d2] }
  | _ => none }
def fileRunsRow : OpenClaim := { program := "ytjfdgccoblanlaa", sum := "06b95cc61fdebd0175a3864f64e5df4a1ec12677b634a2ce1a62f4aa10e4e555", func := "flipbook/flipbooklaw04.FileRuns", spec := "fileRuns", unfollowed := true, recurses := true, apart := false }
def FileRunsSaid : Prop := fileRunsRow.holds Try.pinned (OpenSpec.ofChange fileRunsSpec)

/-- ITS FALSE NEIGHBOUR: 'it returns false'. Refute it at one input. -/
def fileRunsWrong : ChangeSpec := { name := "fileRuns", fn := fun _ => fun
  | [d1, d2] => { results := [.lit (.bool false)], args := [d1, d2] }
  | _ => none }
def FileRunsWrongFalsely : Prop := fileRunsRow.holds Try.pinned (OpenSpec.ofChange fileRunsWrong)

/-- 'flipbooklaw04.FileCrash': WHATEVER THE INPUT: true; the input reads as it did. -/
def fileCrashSpec : ChangeSpec := { name := "fileCrash", fn := fun _ => fun
  | [d1, d2] => { results := [.lit (.bool true)], args := [d1, d2] }
  | _ => none }
def fileCrashRow : OpenClaim := { program := "ytjfdgccoblanlaa", sum := "06b95cc61fdebd0175a3864f64e5df4a1ec12677b634a2ce1a62f4aa10e4e555", func := "flipbook/flipbooklaw04.FileCrash", spec := "fileCrash", unfollowed := true, recurses := true, apart := false }
def FileCrashSaid : Prop := fileCrashRow.holds Try.pinned (OpenSpec.ofChange fileCrashSpec)

/-- ITS FALSE NEIGHBOUR: 'it returns false'. Refute it at one input. -/
def fileCrashWrong : ChangeSpec := { name := "fileCrash", fn := fun _ => fun
  | [d1, d2] => { results := [.lit (.bool false)], args := [d1, d2] }
  | _ => none }
def FileCrashWrongFalsely : Prop := fileCrashRow.holds Try.pinned (OpenSpec.ofChange fileCrashWrong)

/-- 'flipbooklaw19.ShelfAgain': WHATEVER THE INPUT: true; the input reads as it did. -/
def shelfAgainSpec : ChangeSpec := { name := "shelfAgain", fn := fun _ => fun
  | [d1, d2] => { results := [.lit (.bool true)], args := [d1, d2] }
  | _ => none }
def shelfAgainRow : OpenClaim := { program := "ytjfdgccoblanlaa", sum := "06b95cc61fdebd0175a3864f64e5df4a1ec12677b634a2ce1a62f4aa10e4e555", func := "flipbook/flipbooklaw19.ShelfAgain", spec := "shelfAgain", unfollowed := true, recurses := true, apart := false }
def ShelfAgainSaid : Prop := shelfAgainRow.holds Try.pinned (OpenSpec.ofChange shelfAgainSpec)

/-- ITS FALSE NEIGHBOUR: 'it returns false'. Refute it at one input. -/
def shelfAgainWrong : ChangeSpec := { name := "shelfAgain", fn := fun _ => fun
  | [d1, d2] => { results := [.lit (.bool false)], args := [d1, d2] }
  | _ => none }
def ShelfAgainWrongFalsely : Prop := shelfAgainRow.holds Try.pinned (OpenSpec.ofChange shelfAgainWrong)

/-- 'flipbooklaw19.ShelfRuns': WHATEVER THE INPUT: true; the input reads as it did. -/
def shelfRunsSpec : ChangeSpec := { name := "shelfRuns", fn := fun _ => fun
  | [d1, d2, d3] => { results := [.lit (.bool true)], args := [d1, d2, d3] }
  | _ => none }
def shelfRunsRow : OpenClaim := { program := "ytjfdgccoblanlaa", sum := "06b95cc61fdebd0175a3864f64e5df4a1ec12677b634a2ce1a62f4aa10e4e555", func := "flipbook/flipbooklaw19.ShelfRuns", spec := "shelfRuns", unfollowed := true, recurses := true, apart := false }
def ShelfRunsSaid : Prop := shelfRunsRow.holds Try.pinned (OpenSpec.ofChange shelfRunsSpec)

/-- ITS FALSE NEIGHBOUR: 'it returns false'. Refute it at one input. -/
def shelfRunsWrong : ChangeSpec := { name := "shelfRuns", fn := fun _ => fun
  | [d1, d2, d3] => { results := [.lit (.bool false)], args := [d1, d2, d3] }
  | _ => none }
def ShelfRunsWrongFalsely : Prop := shelfRunsRow.holds Try.pinned (OpenSpec.ofChange shelfRunsWrong)

/-- 'flipbooklaw19.ShelfLasts': WHATEVER THE INPUT: true; the input reads as it did. -/
def shelfLastsSpec : ChangeSpec := { name := "shelfLasts", fn := fun _ => fun
  | [d1, d2, d3] => { results := [.lit (.bool true)], args := [d1, d2, d3] }
  | _ => none }
def shelfLastsRow : OpenClaim := { program := "ytjfdgccoblanlaa", sum := "06b95cc61fdebd0175a3864f64e5df4a1ec12677b634a2ce1a62f4aa10e4e555", func := "flipbook/flipbooklaw19.ShelfLasts", spec := "shelfLasts", unfollowed := true, recurses := true, apart := false }
def ShelfLastsSaid : Prop := shelfLastsRow.holds Try.pinned (OpenSpec.ofChange shelfLastsSpec)

/-- ITS FALSE NEIGHBOUR: 'it returns false'. Refute it at one input. -/
def shelfLastsWrong : ChangeSpec := { name := "shelfLasts", fn := fun _ => fun
  | [d1, d2, d3] => { results := [.lit (.bool false)], args := [d1, d2, d3] }
  | _ => none }
def ShelfLastsWrongFalsely : Prop := shelfLastsRow.holds Try.pinned (OpenSpec.ofChange shelfLastsWrong)

/-- 'flipbooklaw19.ShelfSweeps': WHATEVER THE INPUT: true; the input reads as it did. -/
def shelfSweepsSpec : ChangeSpec := { name := "shelfSweeps", fn := fun _ => fun
  | [d] => { results := [.lit (.bool true)], args := [d] }
  | _ => none }
def shelfSweepsRow : OpenClaim := { program := "ytjfdgccoblanlaa", sum := "06b95cc61fdebd0175a3864f64e5df4a1ec12677b634a2ce1a62f4aa10e4e555", func := "flipbook/flipbooklaw19.ShelfSweeps", spec := "shelfSweeps", unfollowed := true, recurses := true, apart := false }
def ShelfSweepsSaid : Prop := shelfSweepsRow.holds Try.pinned (OpenSpec.ofChange shelfSweepsSpec)

/-- ITS FALSE NEIGHBOUR: 'it returns false'. Refute it at one input. -/
def shelfSweepsWrong : ChangeSpec := { name := "shelfSweeps", fn := fun _ => fun
  | [d] => { results := [.lit (.bool false)], args := [d] }
  | _ => none }
def ShelfSweepsWrongFalsely : Prop := shelfSweepsRow.holds Try.pinned (OpenSpec.ofChange shelfSweepsWrong)

/-- 'flipbooklaw19.ShelfFuses': WHATEVER THE INPUT: true; the input reads as it did. -/
def shelfFusesSpec : ChangeSpec := { name := "shelfFuses", fn := fun _ => fun
  | [d1, d2, d3] => { results := [.lit (.bool true)], args := [d1, d2, d3] }
  | _ => none }
def shelfFusesRow : OpenClaim := { program := "ytjfdgccoblanlaa", sum := "06b95cc61fdebd0175a3864f64e5df4a1ec12677b634a2ce1a62f4aa10e4e555", func := "flipbook/flipbooklaw19.ShelfFuses", spec := "shelfFuses", unfollowed := true, recurses := true, apart := false }
def ShelfFusesSaid : Prop := shelfFusesRow.holds Try.pinned (OpenSpec.ofChange shelfFusesSpec)

/-- ITS FALSE NEIGHBOUR: 'it returns false'. Refute it at one input. -/
def shelfFusesWrong : ChangeSpec := { name := "shelfFuses", fn := fun _ => fun
  | [d1, d2, d3] => { results := [.lit (.bool false)], args := [d1, d2, d3] }
  | _ => none }
def ShelfFusesWrongFalsely : Prop := shelfFusesRow.holds Try.pinned (OpenSpec.ofChange shelfFusesWrong)

/- THE SECOND FORM. 'bulk': how many values and letters a reading holds, each counted each time it is reached (what is shared counts as often as it is met; a slice's spare places count too). A statement '..UptoSaid' is the law's where the arguments, and the package variables that the reading takes, are together of bulk at most 1048576: NARROWER than '..Said'. Prove '..Said' where nothing that the law and all that it calls make is longer than what came in: it says more and counts as full. Else prove '..UptoSaid'. A law counts once. -/
mutual
def uptoBulk {H : Type} : DataW H → Nat
  | .lit (.string bytes) => bytes.length + 1
  | .lit _ => 1
  | .nil => 1
  | .ptr d => uptoBulk d + 1
  | .slice elems spare => uptoBulkAll elems + uptoBulkAll spare + 1
  | .agg parts => uptoBulkAll parts + 1
  | .iface _ d => uptoBulk d + 1
  | .map entries => uptoBulkEntries entries + 1
  | .held _ => 1
def uptoBulkAll {H : Type} : List (DataW H) → Nat
  | [] => 0
  | d :: r => uptoBulk d + uptoBulkAll r
def uptoBulkEntries {H : Type} : List (Lit × DataW H) → Nat
  | [] => 0
  | x :: r => uptoBulkEntry x + uptoBulkEntries r
def uptoBulkEntry {H : Type} : Lit × DataW H → Nat
  | (.string bytes, d) => bytes.length + uptoBulk d + 1
  | (_, d) => uptoBulk d + 1
 end
def uptoSmall : (H : Type) → List (DataW H) → Bool := fun _ ds => decide (uptoBulkAll ds ≤ 1048576)
def OpenSpec.upto (s : _root_.Go.ChangeSpec) : _root_.Go.OpenSpec := { _root_.Go.OpenSpec.ofChange s with cond := some uptoSmall }

/-- 'flipbooklaw04.FileSures', WHERE WHAT IT READS IS OF BULK AT MOST 1048576: true; the input reads as it did. -/
def fileSuresUptoRow : OpenClaim := { program := "ytjfdgccoblanlaa", sum := "06b95cc61fdebd0175a3864f64e5df4a1ec12677b634a2ce1a62f4aa10e4e555", func := "flipbook/flipbooklaw04.FileSures", spec := "fileSures", unfollowed := true, recurses := true, apart := false, narrowed := true }
def FileSuresUptoSaid : Prop := fileSuresUptoRow.holds Try.pinned (OpenSpec.upto fileSuresSpec)

/-- 'flipbooklaw04.FileFuse', WHERE WHAT IT READS IS OF BULK AT MOST 1048576: true; the input reads as it did. -/
def fileFuseUptoRow : OpenClaim := { program := "ytjfdgccoblanlaa", sum := "06b95cc61fdebd0175a3864f64e5df4a1ec12677b634a2ce1a62f4aa10e4e555", func := "flipbook/flipbooklaw04.FileFuse", spec := "fileFuse", unfollowed := true, recurses := true, apart := false, narrowed := true }
def FileFuseUptoSaid : Prop := fileFuseUptoRow.holds Try.pinned (OpenSpec.upto fileFuseSpec)

/-- 'flipbooklaw04.FileRooms', WHERE WHAT IT READS IS OF BULK AT MOST 1048576: true; the input reads as it did. -/
def fileRoomsUptoRow : OpenClaim := { program := "ytjfdgccoblanlaa", sum := "06b95cc61fdebd0175a3864f64e5df4a1ec12677b634a2ce1a62f4aa10e4e555", func := "flipbook/flipbooklaw04.FileRooms", spec := "fileRooms", unfollowed := true, recurses := true, apart := false, narrowed := true }
def FileRoomsUptoSaid : Prop := fileRoomsUptoRow.holds Try.pinned (OpenSpec.upto fileRoomsSpec)

/-- 'flipbooklaw04.FileRuns', WHERE WHAT IT READS IS OF BULK AT MOST 1048576: true; the input reads as it did. -/
def fileRunsUptoRow : OpenClaim := { program := "ytjfdgccoblanlaa", sum := "06b95cc61fdebd0175a3864f64e5df4a1ec12677b634a2ce1a62f4aa10e4e555", func := "flipbook/flipbooklaw04.FileRuns", spec := "fileRuns", unfollowed := true, recurses := true, apart := false, narrowed := true }
def FileRunsUptoSaid : Prop := fileRunsUptoRow.holds Try.pinned (OpenSpec.upto fileRunsSpec)

/-- 'flipbooklaw04.FileCrash', WHERE WHAT IT READS IS OF BULK AT MOST 1048576: true; the input reads as it did. -/
def fileCrashUptoRow : OpenClaim := { program := "ytjfdgccoblanlaa", sum := "06b95cc61fdebd0175a3864f64e5df4a1ec12677b634a2ce1a62f4aa10e4e555", func := "flipbook/flipbooklaw04.FileCrash", spec := "fileCrash", unfollowed := true, recurses := true, apart := false, narrowed := true }
def FileCrashUptoSaid : Prop := fileCrashUptoRow.holds Try.pinned (OpenSpec.upto fileCrashSpec)

/-- 'flipbooklaw19.ShelfAgain', WHERE WHAT IT READS IS OF BULK AT MOST 1048576: true; the input reads as it did. -/
def shelfAgainUptoRow : OpenClaim := { program := "ytjfdgccoblanlaa", sum := "06b95cc61fdebd0175a3864f64e5df4a1ec12677b634a2ce1a62f4aa10e4e555", func := "flipbook/flipbooklaw19.ShelfAgain", spec := "shelfAgain", unfollowed := true, recurses := true, apart := false, narrowed := true }
def ShelfAgainUptoSaid : Prop := shelfAgainUptoRow.holds Try.pinned (OpenSpec.upto shelfAgainSpec)

/-- 'flipbooklaw19.ShelfRuns', WHERE WHAT IT READS IS OF BULK AT MOST 1048576: true; the input reads as it did. -/
def shelfRunsUptoRow : OpenClaim := { program := "ytjfdgccoblanlaa", sum := "06b95cc61fdebd0175a3864f64e5df4a1ec12677b634a2ce1a62f4aa10e4e555", func := "flipbook/flipbooklaw19.ShelfRuns", spec := "shelfRuns", unfollowed := true, recurses := true, apart := false, narrowed := true }
def ShelfRunsUptoSaid : Prop := shelfRunsUptoRow.holds Try.pinned (OpenSpec.upto shelfRunsSpec)

/-- 'flipbooklaw19.ShelfLasts', WHERE WHAT IT READS IS OF BULK AT MOST 1048576: true; the input reads as it did. -/
def shelfLastsUptoRow : OpenClaim := { program := "ytjfdgccoblanlaa", sum := "06b95cc61fdebd0175a3864f64e5df4a1ec12677b634a2ce1a62f4aa10e4e555", func := "flipbook/flipbooklaw19.ShelfLasts", spec := "shelfLasts", unfollowed := true, recurses := true, apart := false, narrowed := true }
def ShelfLastsUptoSaid : Prop := shelfLastsUptoRow.holds Try.pinned (OpenSpec.upto shelfLastsSpec)

/-- 'flipbooklaw19.ShelfSweeps', WHERE WHAT IT READS IS OF BULK AT MOST 1048576: true; the input reads as it did. -/
def shelfSweepsUptoRow : OpenClaim := { program := "ytjfdgccoblanlaa", sum := "06b95cc61fdebd0175a3864f64e5df4a1ec12677b634a2ce1a62f4aa10e4e555", func := "flipbook/flipbooklaw19.ShelfSweeps", spec := "shelfSweeps", unfollowed := true, recurses := true, apart := false, narrowed := true }
def ShelfSweepsUptoSaid : Prop := shelfSweepsUptoRow.holds Try.pinned (OpenSpec.upto shelfSweepsSpec)

/-- 'flipbooklaw19.ShelfFuses', WHERE WHAT IT READS IS OF BULK AT MOST 1048576: true; the input reads as it did. -/
def shelfFusesUptoRow : OpenClaim := { program := "ytjfdgccoblanlaa", sum := "06b95cc61fdebd0175a3864f64e5df4a1ec12677b634a2ce1a62f4aa10e4e555", func := "flipbook/flipbooklaw19.ShelfFuses", spec := "shelfFuses", unfollowed := true, recurses := true, apart := false, narrowed := true }
def ShelfFusesUptoSaid : Prop := shelfFusesUptoRow.holds Try.pinned (OpenSpec.upto shelfFusesSpec)

end Rows
end Go.Proofs.Ytjfdgccoblanlaa
