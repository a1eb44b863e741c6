/-
CastSpoils returns true at every input, and leaves what was there as it was: the card of the given statement.
  Conditions: the row's own (the package-level tables that it names read as laid); no other.
-/
import Derived.Test.YtohlebkhlbcnaaaDoorLawTS
import Derived.Test.YtohlebkhlbcnaaaDoorConTopB
import Derived.Test.YtohlebkhlbcnaaaDoorConTopW
namespace Go.Abs.TB.CastSpoils
open Go Go.Abs Go.Proofs Go.Proofs.YtohlebkhlbcnaaaDoor Go.ChangeShapes Go.WideShapes Go.ChangeAt Go.RowKit Go.Abs.TB
theorem res : Tryd.f13.resultTypes = #[4] := by kernel_rfl
theorem read : (Tryd.f13.params.toList.all fun t => Tryd.prog.readableRec t && decide (t < Tryd.prog.types.size)) = true := by kernel_rfl
theorem in_pow : ("internal/strconv.uint64pow10", Rows.laid_internal_strconv_uint64pow10) ∈ Rows.castSpoilsRow.laid := List.mem_cons_of_mem _ (List.mem_cons_of_mem _ (List.mem_cons_self))
theorem in_acc : ("unicode/utf8.acceptRanges", Rows.laid_unicode_utf8_acceptRanges) ∈ Rows.castSpoilsRow.laid := List.mem_cons_of_mem _ (List.mem_cons_of_mem _ (List.mem_cons_of_mem _ (List.mem_cons_self)))
theorem in_first : ("unicode/utf8.first", Rows.laid_unicode_utf8_first) ∈ Rows.castSpoilsRow.laid := List.mem_cons_of_mem _ (List.mem_cons_of_mem _ (List.mem_cons_of_mem _ (List.mem_cons_of_mem _ (List.mem_cons_of_mem _ (List.mem_cons_of_mem _ (List.mem_cons_self))))))
theorem in_syn : ("strconv.ErrSyntax", Rows.laid_strconv_ErrSyntax) ∈ Rows.castSpoilsRow.laid := List.mem_cons_of_mem _ (List.mem_cons_of_mem _ (List.mem_cons_of_mem _ (List.mem_cons_of_mem _ (List.mem_cons_of_mem _ (List.mem_cons_self)))))
theorem in_rng : ("strconv.ErrRange", Rows.laid_strconv_ErrRange) ∈ Rows.castSpoilsRow.laid := List.mem_cons_of_mem _ (List.mem_cons_of_mem _ (List.mem_cons_of_mem _ (List.mem_cons_of_mem _ (List.mem_cons_self))))
theorem gw {W : World} (h : laidMet Tryd.prog Rows.castSpoilsRow.laid W) : GW true true W :=
  ⟨gw_pow h in_pow, fun _ => gw_first h in_first, fun _ => gw_acc h in_acc, fun _ => gw_syn h in_syn, fun _ => gw_rng h in_rng⟩
theorem eq0 : eqOk Tryd.prog 40 41 [.int .i64, .int .i64, .str, .int .i64, .int .i64] = true := by kernel_rfl
theorem ce0 : Tryd.prog.cellsOf 41 = ([.int .i64, .int .i64, .str, .int .i64, .int .i64] : List Sh).length := by kernel_rfl
set_option maxRecDepth 100000 in
theorem contract (H : Type) (enc : TypeId × Value → H) (W : World) (base : Nat) (args : Array Value) (ds gs : List (DataW H)) (before : List MemPlace)
    (hval : ∀ (j : Nat) t v, Tryd.f13.params[j]? = some t → args[j]? = some v → Value.okWide Tryd.prog W .any base t v)
    (hW : DataW.Whole enc Tryd.prog Tryd.f13.params.toList Rows.castSpoilsSpec.vars false W args.toList ds gs before) (hL : laidMetH Tryd.prog Rows.castSpoilsRow.laid W) :
    Calls Tryd.prog 13 args W fun e W' => ∃ v, e = .returned v ∧ Rows.castSpoilsSpec.post enc Tryd.prog Tryd.f13 false true false false W args v W' := by
  have hW' := hW
  obtain ⟨p, q, hA, hV, rfl, hfz, hnd⟩ := hW
  rw [Tryd.params13] at hA hval
  obtain ⟨v0, vs0, d0, ds0, p0, q0, hargs, rfl, rfl, h0, r0⟩ := trodAll_cons hA
  obtain ⟨v1, vs1, d1, ds1, p1, q1, rfl, rfl, rfl, h1, r1⟩ := trodAll_cons r0
  obtain ⟨v2, vs2, d2, ds2, p2, q2, rfl, rfl, rfl, h2, r2⟩ := trodAll_cons r1
  obtain ⟨rfl, rfl, rfl⟩ := trodAll_nil r2
  obtain ⟨rfl, rfl⟩ := trodVars_none hV
  obtain rfl : args = #[v0, v1, v2] := by cases args; simp_all
  have hL' : laidMet Tryd.prog Rows.castSpoilsRow.laid W := hL
  have hG := gw hL'
  obtain ⟨pl0, l0, a0, ok0, B0, hn0, ho0, hb0, k0⟩ := arg_sl eEv (fun _ => True) rfl conv_ev 5 eq0 Tryd.underlying27 ce0 (by decide) (hval 0 27 v0 rfl rfl) h0 (pow_nil hG.pow rfl)
  obtain ⟨a1, rfl, _, _, wf1⟩ := open_int Tryd.underlying3 (hval 1 3 v1 rfl rfl) h1
  obtain ⟨a2, rfl, _, _, wf2⟩ := open_int Tryd.underlying5 (hval 2 5 v2 rfl rfl) h2
  have hH := hG.hrel [pl0] [.row (eEv.all l0) .ro] (fun b x hb => by match b, hb with | 0, hb => (simp at hb; subst hb; rfl) | b + 1, hb => (simp at hb)) fun b pl hb => by
    match b, hb with
    | 0, hb => simp at hb; subst hb; exact ⟨_, rfl, B0 _, rfl⟩
    | b + 1, hb => simp at hb
  obtain ⟨σ1, hc⟩ := law_CastSpoils a0 a1 a2 (pow0_ok true true [.row (eEv.all l0) .ro]) hn0 (fun h => arg_is hn0 ho0 hb0 (k := 5) rfl h)
  have := law_calls (P := Tryd.prog) (F := 13) (xs := [(tSl 5).av a0, (tInt .i64).av a1, (tInt .u8).av a2]) (ws := [v0, .int .i64 a1, .int .u8 a2]) hH (pow0_rw fun b x hb => by match b, hb with | 0, hb => (simp at hb; subst hb; rfl) | b + 1, hb => (simp at hb)) (glob_grel _ _) (by
    simp only [VRels]
    exact ⟨_, _, rfl, k0 _ _ rfl, ⟨_, _, rfl, (by simp [tInt, VRel]), ⟨_, _, rfl, (by simp [tInt, VRel]), rfl⟩⟩⟩) hc
  refine this.mono fun e W' ⟨cv, he, ⟨ρ', hv⟩, hb⟩ => ?_
  have hv' : cv = .bool true := by simpa [tBool, VRel] using hv
  subst hv'
  exact ⟨_, he, law_post laidOut read res Tryd.underlying4 rfl hW' rfl hb⟩
def zargs : Array Value := #[.slice none 0 0, .int .i64 0, .int .u8 0]
noncomputable def low : Nat := (World.holding Tryd.prog default ⟨#[], #[], []⟩).heap.size
noncomputable def laidHeap (os : Os) := (World.holding Tryd.prog os ⟨#[.cells #[.string ⟨#[105, 110, 118, 97, 108, 105, 100, 32, 115, 121, 110, 116, 97, 120]⟩] 107, .cells #[.string ⟨#[118, 97, 108, 117, 101, 32, 111, 117, 116, 32, 111, 102, 32, 114, 97, 110, 103, 101]⟩] 107], #[], []⟩).heap
noncomputable def laidHeap0 (os : Os) := (laidHeap os).modify 4 fun
      | .cells _ t frozen => .cells (powInts.map fun z => Value.int .u64 z).toArray t frozen
      | o => o
noncomputable def laidHeap1 (os : Os) := (laidHeap0 os).modify 5 fun
      | .cells _ t frozen => .cells ([0, 1, 28, 2, 29, 14, 24, 3, 30, 22, 20, 15, 25, 17, 4, 8, 31, 27, 13, 23, 21, 19, 16, 7, 26, 12, 18, 6, 11, 5, 10, 9].map fun z => Value.int .u8 z).toArray t frozen
      | o => o
noncomputable def laidHeap2 (os : Os) := (laidHeap1 os).modify 6 fun
      | .cells _ t frozen => .cells ([0, 1, 56, 2, 57, 49, 28, 3, 61, 58, 42, 50, 38, 29, 17, 4, 62, 47, 59, 36, 45, 43, 51, 22, 53, 39, 33, 30, 24, 18, 12, 5, 63, 55, 48, 27, 60, 41, 37, 16, 46, 35, 44, 21, 52, 32, 23, 11, 54, 26, 40, 15, 34, 20, 31, 10, 25, 14, 19, 9, 13, 8, 7, 6].map fun z => Value.int .u8 z).toArray t frozen
      | o => o
noncomputable def laidHeap3 (os : Os) := (laidHeap2 os).modify 0 fun
      | .cells _ t frozen => .cells (Lib.firstTab.map fun z => Value.int .u8 z).toArray t frozen
      | o => o
noncomputable def laidHeap4 (os : Os) := (laidHeap3 os).modify 1 fun
      | .cells _ t frozen => .cells (accInts.map fun z => Value.int .u8 z).toArray t frozen
      | o => o
noncomputable def laidHeap5 (os : Os) := (laidHeap4 os).modify 2 fun
      | .cells _ t frozen => .cells #[.iface 105 (.pointer (some ⟨low + 0, 0, none⟩))] t frozen
      | o => o
noncomputable def laidHeap6 (os : Os) := (laidHeap5 os).modify 3 fun
      | .cells _ t frozen => .cells #[.iface 105 (.pointer (some ⟨low + 1, 0, none⟩))] t frozen
      | o => o
noncomputable def laidWorld (os : Os) : World := { World.holding Tryd.prog os ⟨#[.cells #[.string ⟨#[105, 110, 118, 97, 108, 105, 100, 32, 115, 121, 110, 116, 97, 120]⟩] 107, .cells #[.string ⟨#[118, 97, 108, 117, 101, 32, 111, 117, 116, 32, 111, 102, 32, 114, 97, 110, 103, 101]⟩] 107], #[], []⟩ with heap := laidHeap6 os }
set_option maxRecDepth 100000 in
theorem laid_met (os : Os) : laidMet Tryd.prog Rows.castSpoilsRow.laid ((laidWorld os).forCall (fun _ _ => 0) ⟨#[], zargs, []⟩).memory :=
  laidMet_of_run' 8 (by kernel_rfl) (by kernel_rfl)
theorem reads (os : Os) {H : Type} (enc : TypeId × Value → H) : ∃ places, DataW.whole enc Tryd.prog ((laidWorld os).forCall (fun _ _ => 0) ⟨#[], zargs, []⟩).memory Tryd.f13.params.toList Rows.castSpoilsSpec.vars false zargs.toList 8 = some ([.nil, .lit (.int .i64 0), .lit (.int .u8 0)], [], places) :=
  ⟨[], by kernel_rfl⟩
set_option maxRecDepth 100000 in
theorem lifted (os : Os) (started : os.Started) (H : Type) (enc : TypeId × Value → H) (F : Stop.Interp) :
    ReturnsInHanded {} Tryd.checked os 13 .any ((OpenSpec.ofChange Rows.castSpoilsSpec).preRow enc Tryd.prog Tryd.f13 Rows.castSpoilsRow.domain false Rows.castSpoilsRow.laid) (((OpenSpec.ofChange Rows.castSpoilsSpec).at F).post enc Tryd.prog Tryd.f13 false true false false) := by
  obtain ⟨places, hx⟩ := reads os enc
  refine returnsInHanded_of_row (C := Tryd.checked) (s := OpenSpec.ofChange Rows.castSpoilsSpec) own started (by kernel_rfl) Tryd.func13
    (witness_row_at (enc := enc) (C := Tryd.checked) false (laidWorld os) zargs rfl (by kernel_rfl) (by kernel_rfl) (by kernel_rfl)
      (OpenSpec.preRow_of_cond 8 hx (by kernel_rfl) (fun k hk => by cases hk) (by kernel_rfl) (laid_met os))) ?_
  intro W base args ds gs before hval hW _ _ _ hL _ _
  exact contract H enc W base args ds gs before hval hW hL
theorem said : Rows.CastSpoilsSaid :=
  OpenClaim.holds_of_cond 13 Tryd.f13 rfl rfl rfl rfl rfl rfl rfl ⟨rfl, rfl, rfl, rfl, rfl⟩ rfl rfl rfl rfl rfl (by kernel_rfl) Tryd.func13 (by kernel_rfl)
    (of_decide_eq_true (by kernel_rfl)) (by unfold Func.isWrapper; first | (rw [if_pos (by decide +kernel)]; kernel_rfl) | (rw [if_neg (by decide +kernel)]; exact ⟨rfl, rfl⟩))
    (fun os started H enc _ F => by rw [OpenClaim.pre_eq_preRow]; exact lifted os started H enc F)
theorem plain (f : FuncId) (fn : Func) (hf : Tryd.pinned.checked.prog.funcNamed "flipbook/flipbooklaw17.CastSpoils" = some f) (hfn : Tryd.pinned.checked.prog.funcs[f]? = some fn) :
    true = Tryd.pinned.checked.prog.looks [] ∧ ∀ (j : Nat) t, fn.params[j]? = some t → Tryd.pinned.checked.prog.wantsStandIn t = false := by
  obtain rfl : f = 13 := Option.some.inj ((show Tryd.prog.funcNamed "flipbook/flipbooklaw17.CastSpoils" = some 13 by kernel_rfl).symm.trans hf) |>.symm
  obtain rfl : fn = Tryd.f13 := (Option.some.inj (Tryd.func13.symm.trans hfn)).symm
  refine ⟨by kernel_rfl, fun j t ht => ?_⟩
  rw [Tryd.params13] at ht
  have : t = 27 ∨ t = 3 ∨ t = 5 := by simpa using Array.mem_of_getElem? ht
  rcases this with rfl | rfl | rfl
  · exact (show Tryd.prog.wantsStandIn 27 = false by kernel_rfl)
  · exact (show Tryd.prog.wantsStandIn 3 = false by kernel_rfl)
  · exact (show Tryd.prog.wantsStandIn 5 = false by kernel_rfl)
theorem card : Rows.CastSpoilsCardSaid :=
  Claim7.holds_tied_plain_at .later [] _ _ _ _ said (fun _ h => by cases h) (by kernel_rfl) (fun _ h => by cases h) castSpoils_row_tie rfl ⟨rfl, rfl⟩ (by kernel_rfl) rfl plain (by kernel_rfl)
end Go.Abs.TB.CastSpoils
namespace Go.Proofs.YtohlebkhlbcnaaaDoor
theorem castSpoils_card : Rows.CastSpoilsCardSaid := Go.Abs.TB.CastSpoils.card
end Go.Proofs.YtohlebkhlbcnaaaDoor
