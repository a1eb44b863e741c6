/-
The closed facts of the row of ScriptBack, one by one.
-/
import Derived.Test.YtnoplfndpemmpaaGreatDoorConTopG
namespace Go.Abs.TE.ScriptBack
open Go Go.Abs Go.Proofs Go.Proofs.YtnoplfndpemmpaaGreatDoor Go.Abs.TE
theorem and2 {a b : Bool} (h : a = true) (k : b = true) : (a && b) = true := by rw [h, k]; rfl
theorem jf0 : (Rows.scriptBackRow.wf (OpenSpec.ofChange (OpenSpec.ofChange Rows.scriptBackSpec).bare)) = true := by kernel_rfl
theorem jf1 : (laidOutB Tryz.prog) = true := by kernel_rfl
theorem jf2 : (mapsRowed Tryz.prog) = true := by kernel_rfl
theorem jf3 : (Tryz.f3.params.all (Tryz.prog.readableRec ·)) = true := by kernel_rfl
theorem jf4 : (namedTie Tryz.prog Rows.scriptBackRow.named (OpenSpec.ofChange Rows.scriptBackSpec).bare.vars) = true := by kernel_rfl
theorem jf5 : ((Rows.scriptBackRow.stops == [])) = true := by kernel_rfl
theorem jf6 : ((Tryz.prog.stops == [])) = true := by kernel_rfl
theorem jf7 : ((Rows.scriptBackRow.knobs == [])) = true := by kernel_rfl
theorem jf8 : ((Tryz.prog.stopKnobs == [])) = true := by kernel_rfl
theorem jf9 : ((Rows.scriptBackRow.inPlace == Tryz.prog.inPlace 3)) = true := by kernel_rfl
theorem jf10 : ((Rows.scriptBackRow.unfollowed == Tryz.prog.unfollowed 3)) = true := by kernel_rfl
theorem jf11 : ((Rows.scriptBackRow.recurses == Tryz.prog.recurses 3)) = true := by kernel_rfl
theorem jf12 : ((Rows.scriptBackRow.named == Tryz.prog.varsNamed 3)) = true := by kernel_rfl
theorem jf13 : ((Rows.scriptBackRow.maps == (Tryz.f3.params.toList ++ (OpenSpec.ofChange Rows.scriptBackSpec).bare.plain.varTypes Tryz.prog).any (Tryz.prog.mapsRec ·))) = true := by kernel_rfl
theorem jf14 : ((Rows.scriptBackRow.ifaces == (Tryz.f3.params.toList ++ (OpenSpec.ofChange Rows.scriptBackSpec).bare.plain.varTypes Tryz.prog).any (Tryz.prog.ifacesRec ·))) = true := by kernel_rfl
theorem jf15 : ((Rows.scriptBackRow.mapsOut == Tryz.prog.mapsAmong Tryz.f3.resultTypes.toList)) = true := by kernel_rfl
theorem jf16 : ((Rows.scriptBackRow.loops == (Tryz.f3.params.toList ++ (OpenSpec.ofChange Rows.scriptBackSpec).bare.plain.varTypes Tryz.prog).any (Tryz.prog.loopsFrom ·))) = true := by kernel_rfl
theorem jf17 : ((Rows.scriptBackRow.wideKeys == (Tryz.f3.params.toList ++ (OpenSpec.ofChange Rows.scriptBackSpec).bare.plain.varTypes Tryz.prog ++ Tryz.f3.resultTypes.toList).any (Tryz.prog.wideKeysFrom ·))) = true := by kernel_rfl
theorem jf18 : ((OpenSpec.ofChange Rows.scriptBackSpec).bare.vars.all (Tryz.prog.varReadable ·)) = true := by kernel_rfl
theorem jf19 : (Tryz.f3.resultTypes.all (fun t => Tryz.prog.readableRec t && decide (t < Tryz.prog.types.size))) = true := by kernel_rfl
theorem jf20 : ((Rows.scriptBackRow.ifacesOut == Tryz.f3.resultTypes.toList.any (Tryz.prog.ifacesRec ·))) = true := by kernel_rfl
theorem jf21 : ((Rows.scriptBackRow.loopsOut == Tryz.f3.resultTypes.toList.any (Tryz.prog.loopsFrom ·))) = true := by kernel_rfl
theorem jf22 : ((Rows.scriptBackRow.plainKeys == Tryz.prog.plainKeys)) = true := by kernel_rfl
theorem jf23 : (Rows.scriptBackRow.shortTexts.isNone) = true := by kernel_rfl
theorem jf24 : (Tryz.prog.stopsHeard) = true := by kernel_rfl
theorem jf25 : (Tryz.prog.mayEnter) = true := by kernel_rfl
theorem jf26 : ((Rows.scriptBackRow.lifted == Tryz.prog.liftsFinal)) = true := by kernel_rfl
theorem jf27 : ((Tryz.prog.make == some Rows.scriptBackRow.make)) = true := by kernel_rfl
theorem jf28 : ((Rows.scriptBackRow.kinds == (if Rows.scriptBackRow.domain.isEmpty then [] else Tryz.f3.params.toList.map fun t => match Tryz.prog.underlying t with | some (.int k) => some k | _ => none))) = true := by kernel_rfl
theorem jf29 : ((Rows.scriptBackRow.pinned == Rows.scriptBackRow.pinnedBy)) = true := by kernel_rfl
theorem jf30 : ((Rows.scriptBackRow.veiled == (Tryz.f3.params.toList ++ (OpenSpec.ofChange Rows.scriptBackSpec).bare.plain.varTypes Tryz.prog ++ Tryz.f3.resultTypes.toList).any (Tryz.prog.veiledRec ·))) = true := by kernel_rfl
theorem jf31 : (Rows.scriptBackRow.veiledFits Tryz.prog Tryz.f3.params.toList (Tryz.f3.params.toList ++ (OpenSpec.ofChange Rows.scriptBackSpec).bare.plain.varTypes Tryz.prog ++ Tryz.f3.resultTypes.toList)) = true := by kernel_rfl
set_option maxRecDepth 100000 in
theorem facts : joinedFacts Tryz.prog 3 Tryz.f3 (OpenSpec.ofChange Rows.scriptBackSpec).bare Rows.scriptBackRow = true := by
  unfold joinedFacts
  refine and2 ?_ jf31
  refine and2 ?_ jf30
  refine and2 ?_ jf29
  refine and2 ?_ jf28
  refine and2 ?_ jf27
  refine and2 ?_ jf26
  refine and2 ?_ jf25
  refine and2 ?_ jf24
  refine and2 ?_ jf23
  refine and2 ?_ jf22
  refine and2 ?_ jf21
  refine and2 ?_ jf20
  refine and2 ?_ jf19
  refine and2 ?_ jf18
  refine and2 ?_ jf17
  refine and2 ?_ jf16
  refine and2 ?_ jf15
  refine and2 ?_ jf14
  refine and2 ?_ jf13
  refine and2 ?_ jf12
  refine and2 ?_ jf11
  refine and2 ?_ jf10
  refine and2 ?_ jf9
  refine and2 ?_ jf8
  refine and2 ?_ jf7
  refine and2 ?_ jf6
  refine and2 ?_ jf5
  refine and2 ?_ jf4
  refine and2 ?_ jf3
  refine and2 ?_ jf2
  refine and2 ?_ jf1
  exact jf0
theorem card1 : Rows.scriptBackRow.wfByText (OpenSpec.ofChange Rows.scriptBackSpec) = true := by kernel_rfl
theorem card3 : false = Rows.scriptBackRow.goesBy Tryz.prog := (goes_none noGoes _ rfl).symm
end Go.Abs.TE.ScriptBack
