/-
CellLines returns true at every input, and leaves what was there as it was: the card of the given statement.
  Conditions: the row's own (the package-level table flipbook/glyph.wide reads as laid); no other.
-/
import Derived.Test.YtcfohnfnajfahaaDoorLawCL
import Derived.Test.YtcfohnfnajfahaaDoorConTop
namespace Go.Abs.TA.CellLines
open Go Go.Abs Go.Proofs Go.Proofs.YtcfohnfnajfahaaDoor Go.ChangeShapes Go.WideShapes Go.ChangeAt Go.RowKit Go.Abs.TA
theorem res : Tryd.f12.resultTypes = #[4] := by kernel_rfl
theorem read : (Tryd.f12.params.toList.all fun t => Tryd.prog.readableRec t && decide (t < Tryd.prog.types.size)) = true := by kernel_rfl
theorem eq0 : eqOk Tryd.prog 40 37 [.int .i32, .bool, .bool, .bool, .int .i64, .int .i64] = true := by kernel_rfl
theorem ce0 : Tryd.prog.cellsOf 37 = ([.int .i32, .bool, .bool, .bool, .int .i64, .int .i64] : List Sh).length := by kernel_rfl
set_option maxRecDepth 100000 in
theorem contract (H : Type) (enc : TypeId × Value → H) (W : World) (base : Nat) (args : Array Value) (ds gs : List (DataW H)) (before : List MemPlace)
    (hval : ∀ (j : Nat) t v, Tryd.f12.params[j]? = some t → args[j]? = some v → Value.okWide Tryd.prog W .any base t v)
    (hW : DataW.Whole enc Tryd.prog Tryd.f12.params.toList Rows.cellLinesSpec.vars false W args.toList ds gs before) (hL : laidMetH Tryd.prog Rows.cellLinesRow.laid W) :
    Calls Tryd.prog 12 args W fun e W' => ∃ v, e = .returned v ∧ Rows.cellLinesSpec.post enc Tryd.prog Tryd.f12 false true false false W args v W' := by
  have hW' := hW
  obtain ⟨p, q, hA, hV, rfl, hfz, hnd⟩ := hW
  rw [Tryd.params12] at hA hval
  obtain ⟨v0, vs0, d0, ds0, p0, q0, hargs, rfl, rfl, h0, r0⟩ := trodAll_cons hA
  obtain ⟨v1, vs1, d1, ds1, p1, q1, rfl, rfl, rfl, h1, r1⟩ := trodAll_cons r0
  obtain ⟨rfl, rfl, rfl⟩ := trodAll_nil r1
  obtain ⟨rfl, rfl⟩ := trodVars_none hV
  obtain rfl : args = #[v0, v1] := by cases args; simp_all
  have hwide := table hL
  obtain ⟨pl0, l0, a0, ok0, B0, hn0, ho0, hb0, k0⟩ := arg_sl eCell _ rfl conv_cell 1 eq0 Tryd.underlying32 ce0 (by decide) (hval 0 32 v0 rfl rfl) h0 (wide_nil hwide)
  obtain ⟨a1, rfl, _, _, wf1⟩ := open_int Tryd.underlying3 (hval 1 3 v1 rfl rfl) h1
  have hH : HRel (mpOf [wpl, pl0]) [.row wideRow .ro, .row (eCell.all l0) .ro] W := hrel_of [wpl, pl0] _ fun b pl hb => by
    match b, hb with
    | 0, hb => simp at hb; subst hb; exact ⟨_, rfl, wide_brel hwide _, rfl⟩
    | 1, hb => simp at hb; subst hb; exact ⟨_, rfl, B0 _, rfl⟩
    | b + 2, hb => simp at hb
  obtain ⟨σ1, hc⟩ := law_CellLines a0 a1 (σ := [.row wideRow .ro, .row (eCell.all l0) .ro]) hn0 (fun h => arg_is hn0 ho0 hb0 (k := 1) rfl h) rfl
  have := law_calls (P := Tryd.prog) (F := 12) (xs := [(tSl eCell.z).av a0, (tInt .i64).av a1]) (ws := [v0, .int .i64 a1]) hH (fun b x hb => by
    match b, hb with
    | 0, hb => simp at hb; subst hb; rfl
    | 1, hb => simp at hb; subst hb; rfl
    | b + 2, hb => simp at hb) (fun g hg => by
    obtain rfl := globT g hg
    exact ⟨18, rfl⟩) (by
    simp only [VRels]
    exact ⟨_, _, rfl, k0 _ _ rfl, ⟨_, _, rfl, (by simp [tInt, VRel]), rfl⟩⟩) hc
  refine this.mono fun e W' ⟨cv, he, ⟨ρ', hv⟩, hb⟩ => ?_
  have hv' : cv = .bool true := by simpa [tBool, VRel] using hv
  subst hv'
  exact ⟨_, he, law_post laidOut read res Tryd.underlying4 rfl hW' rfl hb⟩
def zargs : Array Value := #[.slice none 0 0, .int .i64 0]
noncomputable def laidWorld (os : Os) : World :=
  { World.holding Tryd.prog os ⟨#[], #[], []⟩ with heap := (World.holding Tryd.prog os ⟨#[], #[], []⟩).heap.modify 0 fun
      | .cells _ t frozen => .cells (wideInts.map fun z => Value.int .i32 z).toArray t frozen
      | o => o }
theorem laid_met (os : Os) : laidMet Tryd.prog Rows.cellLinesRow.laid ((laidWorld os).forCall (fun _ _ => 0) ⟨#[], zargs, []⟩).memory :=
  laidMet_of_run' 8 (by kernel_rfl) (by kernel_rfl)
theorem reads (os : Os) {H : Type} (enc : TypeId × Value → H) : ∃ places, DataW.whole enc Tryd.prog ((laidWorld os).forCall (fun _ _ => 0) ⟨#[], zargs, []⟩).memory Tryd.f12.params.toList Rows.cellLinesSpec.vars false zargs.toList 8 = some ([.nil, .lit (.int .i64 0)], [], places) :=
  ⟨[], by kernel_rfl⟩
set_option maxRecDepth 100000 in
theorem lifted (os : Os) (started : os.Started) (H : Type) (enc : TypeId × Value → H) (F : Stop.Interp) :
    ReturnsInHanded {} Tryd.checked os 12 .any ((OpenSpec.ofChange Rows.cellLinesSpec).preRow enc Tryd.prog Tryd.f12 Rows.cellLinesRow.domain false Rows.cellLinesRow.laid) (((OpenSpec.ofChange Rows.cellLinesSpec).at F).post enc Tryd.prog Tryd.f12 false true false false) := by
  obtain ⟨places, hx⟩ := reads os enc
  refine returnsInHanded_of_row (C := Tryd.checked) (s := OpenSpec.ofChange Rows.cellLinesSpec) own started (by kernel_rfl) Tryd.func12
    (witness_row_at (enc := enc) (C := Tryd.checked) false (laidWorld os) zargs rfl (by kernel_rfl) (by kernel_rfl) (by kernel_rfl)
      (OpenSpec.preRow_of_cond 8 hx (by kernel_rfl) (fun k hk => by cases hk) (by kernel_rfl) (laid_met os))) ?_
  intro W base args ds gs before hval hW _ _ _ hL _ _
  exact contract H enc W base args ds gs before hval hW hL
theorem said : Rows.CellLinesSaid :=
  OpenClaim.holds_of_cond 12 Tryd.f12 rfl rfl rfl rfl rfl rfl rfl ⟨rfl, rfl, rfl, rfl, rfl⟩ rfl rfl rfl rfl rfl (by kernel_rfl) Tryd.func12 (by kernel_rfl)
    (of_decide_eq_true (by kernel_rfl)) (by unfold Func.isWrapper; first | (rw [if_pos (by decide +kernel)]; kernel_rfl) | (rw [if_neg (by decide +kernel)]; exact ⟨rfl, rfl⟩))
    (fun os started H enc _ F => by rw [OpenClaim.pre_eq_preRow]; exact lifted os started H enc F)
theorem plain (f : FuncId) (fn : Func) (hf : Tryd.pinned.checked.prog.funcNamed "flipbook/flipbooklaw08.CellLines" = some f) (hfn : Tryd.pinned.checked.prog.funcs[f]? = some fn) :
    false = Tryd.pinned.checked.prog.looks [] ∧ ∀ (j : Nat) t, fn.params[j]? = some t → Tryd.pinned.checked.prog.wantsStandIn t = false := by
  obtain rfl : f = 12 := Option.some.inj ((show Tryd.prog.funcNamed "flipbook/flipbooklaw08.CellLines" = some 12 by kernel_rfl).symm.trans hf) |>.symm
  obtain rfl : fn = Tryd.f12 := (Option.some.inj (Tryd.func12.symm.trans hfn)).symm
  refine ⟨by kernel_rfl, fun j t ht => ?_⟩
  rw [Tryd.params12] at ht
  have : t = 32 ∨ t = 3 := by simpa using Array.mem_of_getElem? ht
  rcases this with rfl | rfl
  · exact (show Tryd.prog.wantsStandIn 32 = false by kernel_rfl)
  · exact (show Tryd.prog.wantsStandIn 3 = false by kernel_rfl)
theorem card : Rows.CellLinesCardSaid :=
  Claim7.holds_tied_plain_at .later [] _ _ _ _ said (fun _ h => by cases h) (by kernel_rfl) (fun _ h => by cases h) cellLines_row_tie rfl ⟨rfl, rfl⟩ (by kernel_rfl) rfl plain (by kernel_rfl)
end Go.Abs.TA.CellLines
namespace Go.Proofs.YtcfohnfnajfahaaDoor
theorem cellLines_card : Rows.CellLinesCardSaid := Go.Abs.TA.CellLines.card
end Go.Proofs.YtcfohnfnajfahaaDoor
