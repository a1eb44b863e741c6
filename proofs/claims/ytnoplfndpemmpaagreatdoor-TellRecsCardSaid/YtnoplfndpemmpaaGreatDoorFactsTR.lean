/-
The closed facts of the row of TellRecs, one by one.
-/
import Derived.Test.YtnoplfndpemmpaaGreatDoorConTopG
namespace Go.Abs.TE.TellRecs
open Go Go.Abs Go.Proofs Go.Proofs.YtnoplfndpemmpaaGreatDoor Go.Abs.TE
theorem and2 {a b : Bool} (h : a = true) (k : b = true) : (a && b) = true := by rw [h, k]; rfl
theorem jf0 : (Rows.tellRecsRow.wf (OpenSpec.ofChange (OpenSpec.ofChange Rows.tellRecsSpec).bare)) = true := by kernel_rfl
theorem jf1 : (laidOutB Tryz.prog) = true := by kernel_rfl
theorem jf2 : (mapsRowed Tryz.prog) = true := by kernel_rfl
theorem jf3 : (Tryz.f6.params.all (Tryz.prog.readableRec ·)) = true := by kernel_rfl
theorem jf4 : (namedTie Tryz.prog Rows.tellRecsRow.named (OpenSpec.ofChange Rows.tellRecsSpec).bare.vars) = true := by kernel_rfl
theorem jf5 : ((Rows.tellRecsRow.stops == [])) = true := by kernel_rfl
theorem jf6 : ((Tryz.prog.stops == [])) = true := by kernel_rfl
theorem jf7 : ((Rows.tellRecsRow.knobs == [])) = true := by kernel_rfl
theorem jf8 : ((Tryz.prog.stopKnobs == [])) = true := by kernel_rfl
theorem jf9 : ((Rows.tellRecsRow.inPlace == Tryz.prog.inPlace 6)) = true := by kernel_rfl
theorem jf10 : ((Rows.tellRecsRow.unfollowed == Tryz.prog.unfollowed 6)) = true := by kernel_rfl
theorem jf11 : ((Rows.tellRecsRow.recurses == Tryz.prog.recurses 6)) = true := by kernel_rfl
theorem jf12 : ((Rows.tellRecsRow.named == Tryz.prog.varsNamed 6)) = true := by kernel_rfl
theorem jf13 : ((Rows.tellRecsRow.maps == (Tryz.f6.params.toList ++ (OpenSpec.ofChange Rows.tellRecsSpec).bare.plain.varTypes Tryz.prog).any (Tryz.prog.mapsRec ·))) = true := by kernel_rfl
theorem jf14 : ((Rows.tellRecsRow.ifaces == (Tryz.f6.params.toList ++ (OpenSpec.ofChange Rows.tellRecsSpec).bare.plain.varTypes Tryz.prog).any (Tryz.prog.ifacesRec ·))) = true := by kernel_rfl
theorem jf15 : ((Rows.tellRecsRow.mapsOut == Tryz.prog.mapsAmong Tryz.f6.resultTypes.toList)) = true := by kernel_rfl
theorem jf16 : ((Rows.tellRecsRow.loops == (Tryz.f6.params.toList ++ (OpenSpec.ofChange Rows.tellRecsSpec).bare.plain.varTypes Tryz.prog).any (Tryz.prog.loopsFrom ·))) = true := by kernel_rfl
theorem jf17 : ((Rows.tellRecsRow.wideKeys == (Tryz.f6.params.toList ++ (OpenSpec.ofChange Rows.tellRecsSpec).bare.plain.varTypes Tryz.prog ++ Tryz.f6.resultTypes.toList).any (Tryz.prog.wideKeysFrom ·))) = true := by kernel_rfl
theorem jf18 : ((OpenSpec.ofChange Rows.tellRecsSpec).bare.vars.all (Tryz.prog.varReadable ·)) = true := by kernel_rfl
theorem jf19 : (Tryz.f6.resultTypes.all (fun t => Tryz.prog.readableRec t && decide (t < Tryz.prog.types.size))) = true := by kernel_rfl
theorem jf20 : ((Rows.tellRecsRow.ifacesOut == Tryz.f6.resultTypes.toList.any (Tryz.prog.ifacesRec ·))) = true := by kernel_rfl
theorem jf21 : ((Rows.tellRecsRow.loopsOut == Tryz.f6.resultTypes.toList.any (Tryz.prog.loopsFrom ·))) = true := by kernel_rfl
theorem jf22 : ((Rows.tellRecsRow.plainKeys == Tryz.prog.plainKeys)) = true := by kernel_rfl
theorem jf23 : (Rows.tellRecsRow.shortTexts.isNone) = true := by kernel_rfl
theorem jf24 : (Tryz.prog.stopsHeard) = true := by kernel_rfl
theorem jf25 : (Tryz.prog.mayEnter) = true := by kernel_rfl
theorem jf26 : ((Rows.tellRecsRow.lifted == Tryz.prog.liftsFinal)) = true := by kernel_rfl
theorem jf27 : ((Tryz.prog.make == some Rows.tellRecsRow.make)) = true := by kernel_rfl
theorem jf28 : ((Rows.tellRecsRow.kinds == (if Rows.tellRecsRow.domain.isEmpty then [] else Tryz.f6.params.toList.map fun t => match Tryz.prog.underlying t with | some (.int k) => some k | _ => none))) = true := by kernel_rfl
theorem jf29 : ((Rows.tellRecsRow.pinned == Rows.tellRecsRow.pinnedBy)) = true := by kernel_rfl
theorem jf30 : ((Rows.tellRecsRow.veiled == (Tryz.f6.params.toList ++ (OpenSpec.ofChange Rows.tellRecsSpec).bare.plain.varTypes Tryz.prog ++ Tryz.f6.resultTypes.toList).any (Tryz.prog.veiledRec ·))) = true := by kernel_rfl
theorem jf31 : (Rows.tellRecsRow.veiledFits Tryz.prog Tryz.f6.params.toList (Tryz.f6.params.toList ++ (OpenSpec.ofChange Rows.tellRecsSpec).bare.plain.varTypes Tryz.prog ++ Tryz.f6.resultTypes.toList)) = true := by kernel_rfl
set_option maxRecDepth 100000 in
theorem facts : joinedFacts Tryz.prog 6 Tryz.f6 (OpenSpec.ofChange Rows.tellRecsSpec).bare Rows.tellRecsRow = true := by
  unfold joinedFacts
  refine and2 ?_ jf31
  refine and2 ?_ jf30
  refine and2 ?_ jf29
  refine and2 ?_ jf28
  refine and2 ?_ jf27
  refine and2 ?_ jf26
  refine and2 ?_ jf25
  refine and2 ?_ jf24
  refine and2 ?_ jf23
  refine and2 ?_ jf22
  refine and2 ?_ jf21
  refine and2 ?_ jf20
  refine and2 ?_ jf19
  refine and2 ?_ jf18
  refine and2 ?_ jf17
  refine and2 ?_ jf16
  refine and2 ?_ jf15
  refine and2 ?_ jf14
  refine and2 ?_ jf13
  refine and2 ?_ jf12
  refine and2 ?_ jf11
  refine and2 ?_ jf10
  refine and2 ?_ jf9
  refine and2 ?_ jf8
  refine and2 ?_ jf7
  refine and2 ?_ jf6
  refine and2 ?_ jf5
  refine and2 ?_ jf4
  refine and2 ?_ jf3
  refine and2 ?_ jf2
  refine and2 ?_ jf1
  exact jf0
theorem card1 : Rows.tellRecsRow.wfByText (OpenSpec.ofChange Rows.tellRecsSpec) = true := by kernel_rfl
theorem card3 : false = Rows.tellRecsRow.goesBy Tryz.prog := (goes_none noGoes _ rfl).symm
end Go.Abs.TE.TellRecs
