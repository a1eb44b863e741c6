/-
GridRuns returns true at every input, and leaves what was there as it was: the card of the given statement.
  Conditions: the row's own (the package-level table flipbook/glyph.wide reads as laid); no other.
-/
import Derived.Test.YtcfohnfnajfahaaDoorLawGR
import Derived.Test.YtcfohnfnajfahaaDoorConTop2
namespace Go.Abs.TA.GridRuns
open Go Go.Abs Go.Proofs Go.Proofs.YtcfohnfnajfahaaDoor Go.ChangeShapes Go.WideShapes Go.ChangeAt Go.RowKit Go.Abs.TA
theorem res : Tryd.f15.resultTypes = #[4] := by kernel_rfl
theorem read : (Tryd.f15.params.toList.all fun t => Tryd.prog.readableRec t && decide (t < Tryd.prog.types.size)) = true := by kernel_rfl
theorem ct0 : Tryd.prog.cellsOf 48 = 2 := by kernel_rfl
theorem eq1 : eqOk Tryd.prog 40 37 [.int .i32, .bool, .bool, .bool, .int .i64, .int .i64] = true := by kernel_rfl
theorem ce1 : Tryd.prog.cellsOf 37 = ([.int .i32, .bool, .bool, .bool, .int .i64, .int .i64] : List Sh).length := by kernel_rfl
theorem eq2 : eqOk Tryd.prog 40 76 [.int .i64, .int .i64, .int .i64, .int .i64, .int .i32, .bool, .bool, .bool, .int .i64, .int .i64] = true := by kernel_rfl
theorem ce2 : Tryd.prog.cellsOf 76 = ([.int .i64, .int .i64, .int .i64, .int .i64, .int .i32, .bool, .bool, .bool, .int .i64, .int .i64] : List Sh).length := by kernel_rfl
set_option maxRecDepth 100000 in
theorem contract (H : Type) (enc : TypeId × Value → H) (W : World) (base : Nat) (args : Array Value) (ds gs : List (DataW H)) (before : List MemPlace)
    (hval : ∀ (j : Nat) t v, Tryd.f15.params[j]? = some t → args[j]? = some v → Value.okWide Tryd.prog W .any base t v)
    (hW : DataW.Whole enc Tryd.prog Tryd.f15.params.toList Rows.gridRunsSpec.vars false W args.toList ds gs before) (hL : laidMetH Tryd.prog Rows.gridRunsRow.laid W) :
    Calls Tryd.prog 15 args W fun e W' => ∃ v, e = .returned v ∧ Rows.gridRunsSpec.post enc Tryd.prog Tryd.f15 false true false false W args v W' := by
  have hW' := hW
  obtain ⟨p, q, hA, hV, rfl, hfz, hnd⟩ := hW
  rw [Tryd.params15] at hA hval
  obtain ⟨v0, vs0, d0, ds0, p0, q0, hargs, rfl, rfl, h0, r0⟩ := trodAll_cons hA
  obtain ⟨v1, vs1, d1, ds1, p1, q1, rfl, rfl, rfl, h1, r1⟩ := trodAll_cons r0
  obtain ⟨v2, vs2, d2, ds2, p2, q2, rfl, rfl, rfl, h2, r2⟩ := trodAll_cons r1
  obtain ⟨rfl, rfl, rfl⟩ := trodAll_nil r2
  obtain ⟨rfl, rfl⟩ := trodVars_none hV
  obtain rfl : args = #[v0, v1, v2] := by cases args; simp_all
  have hwide := table hL
  obtain ⟨a0, k0⟩ := arg_arr2 Tryd.underlying48 ct0 (hval 0 48 v0 rfl rfl) h0
  obtain ⟨pl1, l1, a1, ok1, B1, hn1, ho1, hb1, k1⟩ := arg_sl eCell _ rfl conv_cell 1 eq1 Tryd.underlying32 ce1 (by decide) (hval 1 32 v1 rfl rfl) h1 (wide_nil hwide)
  obtain ⟨pl2, l2, a2, ok2, B2, hn2, ho2, hb2, k2⟩ := arg_sl eDeed _ rfl conv_deed 2 eq2 Tryd.underlying74 ce2 (by decide) (hval 2 74 v2 rfl rfl) h2 (wide_nil hwide)
  have hH : HRel (mpOf [wpl W, pl1, pl2]) [.row wideRow .ro, .row (eCell.all l1) .ro, .row (eDeed.all l2) .ro] W := hrel_of [wpl W, pl1, pl2] _ (fun b pl hb => by
    match b, hb with
    | 0, hb => simp at hb; subst hb; exact ⟨_, rfl, wide_brel hwide _, rfl⟩
    | 1, hb => simp at hb; subst hb; exact ⟨_, rfl, B1 _, rfl⟩
    | 2, hb => simp at hb; subst hb; exact ⟨_, rfl, B2 _, rfl⟩
    | b + 3, hb => simp at hb) fun b x hb => by
    match b, hb with
    | 0, hb => simp at hb; subst hb; rfl
    | 1, hb => simp at hb; subst hb; rfl
    | 2, hb => simp at hb; subst hb; rfl
    | b + 3, hb => simp at hb
  obtain ⟨σ1, hc⟩ := law_GridRuns a0 a1 a2 (σ := [.row wideRow .ro, .row (eCell.all l1) .ro, .row (eDeed.all l2) .ro]) hn1 (fun h => arg_is hn1 ho1 hb1 (k := 1) rfl h) hn2 (fun h => arg_is hn2 ho2 hb2 (k := 2) rfl h) rfl
  have := law_calls (P := Tryd.prog) (F := 15) (xs := [t_Arr_2_Int.av a0, (tSl eCell.z).av a1, (tSl eDeed.z).av a2]) (ws := [v0, v1, v2]) hH (fun b x hb => by
    match b, hb with
    | 0, hb => simp at hb; subst hb; rfl
    | 1, hb => simp at hb; subst hb; rfl
    | 2, hb => simp at hb; subst hb; rfl
    | b + 3, hb => simp at hb) (fun g hg => by
    obtain rfl := globT g hg
    exact ⟨tyAt W 0, rfl⟩) (by
    simp only [VRels]
    exact ⟨_, _, rfl, k0 _ _, ⟨_, _, rfl, k1 _ _ rfl, ⟨_, _, rfl, k2 _ _ rfl, rfl⟩⟩⟩) hc
  refine this.mono fun e W' ⟨cv, he, ⟨ρ', hv⟩, hb⟩ => ?_
  have hv' : cv = .bool true := by simpa [tBool, VRel] using hv
  subst hv'
  exact ⟨_, he, law_post laidOut read res Tryd.underlying4 rfl hW' rfl hb⟩
def zargs : Array Value := #[.agg #[.int .i64 0, .int .i64 0], .slice none 0 0, .slice none 0 0]
noncomputable def laidWorld (os : Os) : World :=
  { World.holding Tryd.prog os ⟨#[], #[], []⟩ with heap := (World.holding Tryd.prog os ⟨#[], #[], []⟩).heap.modify 0 fun
      | .cells _ t frozen => .cells (wideInts.map fun z => Value.int .i32 z).toArray t frozen
      | o => o }
theorem laid_met (os : Os) : laidMet Tryd.prog Rows.gridRunsRow.laid ((laidWorld os).forCall (fun _ _ => 0) ⟨#[], zargs, []⟩).memory :=
  laidMet_of_run' 8 (by kernel_rfl) (by kernel_rfl)
theorem reads (os : Os) {H : Type} (enc : TypeId × Value → H) : ∃ places, DataW.whole enc Tryd.prog ((laidWorld os).forCall (fun _ _ => 0) ⟨#[], zargs, []⟩).memory Tryd.f15.params.toList Rows.gridRunsSpec.vars false zargs.toList 8 = some ([.agg [.lit (.int .i64 0), .lit (.int .i64 0)], .nil, .nil], [], places) :=
  ⟨[], by kernel_rfl⟩
set_option maxRecDepth 100000 in
theorem lifted (os : Os) (started : os.Started) (H : Type) (enc : TypeId × Value → H) (F : Stop.Interp) :
    ReturnsInHanded {} Tryd.checked os 15 .any ((OpenSpec.ofChange Rows.gridRunsSpec).preRow enc Tryd.prog Tryd.f15 Rows.gridRunsRow.domain false Rows.gridRunsRow.laid) (((OpenSpec.ofChange Rows.gridRunsSpec).at F).post enc Tryd.prog Tryd.f15 false true false false) := by
  obtain ⟨places, hx⟩ := reads os enc
  refine returnsInHanded_of_row (C := Tryd.checked) (s := OpenSpec.ofChange Rows.gridRunsSpec) own started (by kernel_rfl) Tryd.func15
    (witness_row_at (enc := enc) (C := Tryd.checked) false (laidWorld os) zargs rfl (by kernel_rfl) (by kernel_rfl) (by kernel_rfl)
      (OpenSpec.preRow_of_cond 8 hx (by kernel_rfl) (fun k hk => by cases hk) (by kernel_rfl) (laid_met os))) ?_
  intro W base args ds gs before hval hW _ _ _ hL _ _
  exact contract H enc W base args ds gs before hval hW hL
theorem said : Rows.GridRunsSaid :=
  OpenClaim.holds_of_cond 15 Tryd.f15 rfl rfl rfl rfl rfl rfl rfl ⟨rfl, rfl, rfl, rfl, rfl⟩ rfl rfl rfl rfl rfl (by kernel_rfl) Tryd.func15 (by kernel_rfl)
    (of_decide_eq_true (by kernel_rfl)) (by unfold Func.isWrapper; first | (rw [if_pos (by decide +kernel)]; kernel_rfl) | (rw [if_neg (by decide +kernel)]; exact ⟨rfl, rfl⟩))
    (fun os started H enc _ F => by rw [OpenClaim.pre_eq_preRow]; exact lifted os started H enc F)
theorem plain (f : FuncId) (fn : Func) (hf : Tryd.pinned.checked.prog.funcNamed "flipbook/flipbooklaw09.GridRuns" = some f) (hfn : Tryd.pinned.checked.prog.funcs[f]? = some fn) :
    false = Tryd.pinned.checked.prog.looks [] ∧ ∀ (j : Nat) t, fn.params[j]? = some t → Tryd.pinned.checked.prog.wantsStandIn t = false := by
  obtain rfl : f = 15 := Option.some.inj ((show Tryd.prog.funcNamed "flipbook/flipbooklaw09.GridRuns" = some 15 by kernel_rfl).symm.trans hf) |>.symm
  obtain rfl : fn = Tryd.f15 := (Option.some.inj (Tryd.func15.symm.trans hfn)).symm
  refine ⟨by kernel_rfl, fun j t ht => ?_⟩
  rw [Tryd.params15] at ht
  have : t = 48 ∨ t = 32 ∨ t = 74 := by simpa using Array.mem_of_getElem? ht
  rcases this with rfl | rfl | rfl
  · exact (show Tryd.prog.wantsStandIn 48 = false by kernel_rfl)
  · exact (show Tryd.prog.wantsStandIn 32 = false by kernel_rfl)
  · exact (show Tryd.prog.wantsStandIn 74 = false by kernel_rfl)
theorem card : Rows.GridRunsCardSaid :=
  Claim7.holds_tied_plain_at .later [] _ _ _ _ said (fun _ h => by cases h) (by kernel_rfl) (fun _ h => by cases h) gridRuns_row_tie rfl ⟨rfl, rfl⟩ (by kernel_rfl) rfl plain (by kernel_rfl)
end Go.Abs.TA.GridRuns
namespace Go.Proofs.YtcfohnfnajfahaaDoor
theorem gridRuns_card : Rows.GridRunsCardSaid := Go.Abs.TA.GridRuns.card
end Go.Proofs.YtcfohnfnajfahaaDoor
