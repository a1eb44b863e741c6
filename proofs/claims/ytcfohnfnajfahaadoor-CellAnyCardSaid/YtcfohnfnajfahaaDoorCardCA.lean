/-
CellAny returns true at every input, and leaves what was there as it was: the card of the given statement.
  Conditions: the row's own (the package-level table flipbook/glyph.wide reads as laid); no other.
-/
import Derived.Test.YtcfohnfnajfahaaDoorLawCA
import Derived.Test.YtcfohnfnajfahaaDoorConTop
namespace Go.Abs.TA.CellAny
open Go Go.Abs Go.Proofs Go.Proofs.YtcfohnfnajfahaaDoor Go.ChangeShapes Go.WideShapes Go.ChangeAt Go.RowKit Go.Abs.TA
theorem res : Tryd.f10.resultTypes = #[4] := by kernel_rfl
theorem read : (Tryd.f10.params.toList.all fun t => Tryd.prog.readableRec t && decide (t < Tryd.prog.types.size)) = true := by kernel_rfl
theorem eq0 : eqOk Tryd.prog 40 5 [.int .u8] = true := by kernel_rfl
theorem ce0 : Tryd.prog.cellsOf 5 = ([.int .u8] : List Sh).length := by kernel_rfl
set_option maxRecDepth 100000 in
theorem contract (H : Type) (enc : TypeId × Value → H) (W : World) (base : Nat) (args : Array Value) (ds gs : List (DataW H)) (before : List MemPlace)
    (hval : ∀ (j : Nat) t v, Tryd.f10.params[j]? = some t → args[j]? = some v → Value.okWide Tryd.prog W .any base t v)
    (hW : DataW.Whole enc Tryd.prog Tryd.f10.params.toList Rows.cellAnySpec.vars false W args.toList ds gs before) (hL : laidMetH Tryd.prog Rows.cellAnyRow.laid W) :
    Calls Tryd.prog 10 args W fun e W' => ∃ v, e = .returned v ∧ Rows.cellAnySpec.post enc Tryd.prog Tryd.f10 false true false false W args v W' := by
  have hW' := hW
  obtain ⟨p, q, hA, hV, rfl, hfz, hnd⟩ := hW
  rw [Tryd.params10] at hA hval
  obtain ⟨v0, vs0, d0, ds0, p0, q0, hargs, rfl, rfl, h0, r0⟩ := trodAll_cons hA
  obtain ⟨v1, vs1, d1, ds1, p1, q1, rfl, rfl, rfl, h1, r1⟩ := trodAll_cons r0
  obtain ⟨rfl, rfl, rfl⟩ := trodAll_nil r1
  obtain ⟨rfl, rfl⟩ := trodVars_none hV
  obtain rfl : args = #[v0, v1] := by cases args; simp_all
  have hwide := table hL
  obtain ⟨pl0, l0, a0, ok0, B0, hn0, ho0, hb0, k0⟩ := arg_sl eU8 _ rfl conv_u8 1 eq0 Tryd.underlying39 ce0 (by decide) (hval 0 39 v0 rfl rfl) h0 (wide_nil hwide)
  obtain ⟨a1, rfl, _, _, wf1⟩ := open_int Tryd.underlying3 (hval 1 3 v1 rfl rfl) h1
  have hH : HRel (mpOf [wpl, pl0]) [.row wideRow .ro, .row (eU8.all l0) .ro] W := hrel_of [wpl, pl0] _ fun b pl hb => by
    match b, hb with
    | 0, hb => simp at hb; subst hb; exact ⟨_, rfl, wide_brel hwide _, rfl⟩
    | 1, hb => simp at hb; subst hb; exact ⟨_, rfl, B0 _, rfl⟩
    | b + 2, hb => simp at hb
  obtain ⟨σ1, hc⟩ := law_CellAny a0 a1 (σ := [.row wideRow .ro, .row (eU8.all l0) .ro]) hn0 (fun h => arg_is hn0 ho0 hb0 (k := 1) rfl h) rfl
  have := law_calls (P := Tryd.prog) (F := 10) (xs := [(tSl eU8.z).av a0, (tInt .i64).av a1]) (ws := [v0, .int .i64 a1]) hH (fun b x hb => by
    match b, hb with
    | 0, hb => simp at hb; subst hb; rfl
    | 1, hb => simp at hb; subst hb; rfl
    | b + 2, hb => simp at hb) (fun g hg => by
    obtain rfl := globT g hg
    exact ⟨18, rfl⟩) (by
    simp only [VRels]
    exact ⟨_, _, rfl, k0 _ _ rfl, ⟨_, _, rfl, (by simp [tInt, VRel]), rfl⟩⟩) hc
  refine this.mono fun e W' ⟨cv, he, ⟨ρ', hv⟩, hb⟩ => ?_
  have hv' : cv = .bool true := by simpa [tBool, VRel] using hv
  subst hv'
  exact ⟨_, he, law_post laidOut read res Tryd.underlying4 rfl hW' rfl hb⟩
def zargs : Array Value := #[.slice none 0 0, .int .i64 0]
noncomputable def laidWorld (os : Os) : World :=
  { World.holding Tryd.prog os ⟨#[], #[], []⟩ with heap := (World.holding Tryd.prog os ⟨#[], #[], []⟩).heap.modify 0 fun
      | .cells _ t frozen => .cells (wideInts.map fun z => Value.int .i32 z).toArray t frozen
      | o => o }
theorem laid_met (os : Os) : laidMet Tryd.prog Rows.cellAnyRow.laid ((laidWorld os).forCall (fun _ _ => 0) ⟨#[], zargs, []⟩).memory :=
  laidMet_of_run' 8 (by kernel_rfl) (by kernel_rfl)
theorem reads (os : Os) {H : Type} (enc : TypeId × Value → H) : ∃ places, DataW.whole enc Tryd.prog ((laidWorld os).forCall (fun _ _ => 0) ⟨#[], zargs, []⟩).memory Tryd.f10.params.toList Rows.cellAnySpec.vars false zargs.toList 8 = some ([.nil, .lit (.int .i64 0)], [], places) :=
  ⟨[], by kernel_rfl⟩
set_option maxRecDepth 100000 in
theorem lifted (os : Os) (started : os.Started) (H : Type) (enc : TypeId × Value → H) (F : Stop.Interp) :
    ReturnsInHanded {} Tryd.checked os 10 .any ((OpenSpec.ofChange Rows.cellAnySpec).preRow enc Tryd.prog Tryd.f10 Rows.cellAnyRow.domain false Rows.cellAnyRow.laid) (((OpenSpec.ofChange Rows.cellAnySpec).at F).post enc Tryd.prog Tryd.f10 false true false false) := by
  obtain ⟨places, hx⟩ := reads os enc
  refine returnsInHanded_of_row (C := Tryd.checked) (s := OpenSpec.ofChange Rows.cellAnySpec) own started (by kernel_rfl) Tryd.func10
    (witness_row_at (enc := enc) (C := Tryd.checked) false (laidWorld os) zargs rfl (by kernel_rfl) (by kernel_rfl) (by kernel_rfl)
      (OpenSpec.preRow_of_cond 8 hx (by kernel_rfl) (fun k hk => by cases hk) (by kernel_rfl) (laid_met os))) ?_
  intro W base args ds gs before hval hW _ _ _ hL _ _
  exact contract H enc W base args ds gs before hval hW hL
theorem said : Rows.CellAnySaid :=
  OpenClaim.holds_of_cond 10 Tryd.f10 rfl rfl rfl rfl rfl rfl rfl ⟨rfl, rfl, rfl, rfl, rfl⟩ rfl rfl rfl rfl rfl (by kernel_rfl) Tryd.func10 (by kernel_rfl)
    (of_decide_eq_true (by kernel_rfl)) (by unfold Func.isWrapper; first | (rw [if_pos (by decide +kernel)]; kernel_rfl) | (rw [if_neg (by decide +kernel)]; exact ⟨rfl, rfl⟩))
    (fun os started H enc _ F => by rw [OpenClaim.pre_eq_preRow]; exact lifted os started H enc F)
theorem plain (f : FuncId) (fn : Func) (hf : Tryd.pinned.checked.prog.funcNamed "flipbook/flipbooklaw08.CellAny" = some f) (hfn : Tryd.pinned.checked.prog.funcs[f]? = some fn) :
    false = Tryd.pinned.checked.prog.looks [] ∧ ∀ (j : Nat) t, fn.params[j]? = some t → Tryd.pinned.checked.prog.wantsStandIn t = false := by
  obtain rfl : f = 10 := Option.some.inj ((show Tryd.prog.funcNamed "flipbook/flipbooklaw08.CellAny" = some 10 by kernel_rfl).symm.trans hf) |>.symm
  obtain rfl : fn = Tryd.f10 := (Option.some.inj (Tryd.func10.symm.trans hfn)).symm
  refine ⟨by kernel_rfl, fun j t ht => ?_⟩
  rw [Tryd.params10] at ht
  have : t = 39 ∨ t = 3 := by simpa using Array.mem_of_getElem? ht
  rcases this with rfl | rfl
  · exact (show Tryd.prog.wantsStandIn 39 = false by kernel_rfl)
  · exact (show Tryd.prog.wantsStandIn 3 = false by kernel_rfl)
theorem card : Rows.CellAnyCardSaid :=
  Claim7.holds_tied_plain_at .later [] _ _ _ _ said (fun _ h => by cases h) (by kernel_rfl) (fun _ h => by cases h) cellAny_row_tie rfl ⟨rfl, rfl⟩ (by kernel_rfl) rfl plain (by kernel_rfl)
end Go.Abs.TA.CellAny
namespace Go.Proofs.YtcfohnfnajfahaaDoor
theorem cellAny_card : Rows.CellAnyCardSaid := Go.Abs.TA.CellAny.card
end Go.Proofs.YtcfohnfnajfahaaDoor
