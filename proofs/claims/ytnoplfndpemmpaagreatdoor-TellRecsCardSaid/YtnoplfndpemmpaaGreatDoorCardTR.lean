/-
TellRecs returns true at every input, and leaves what was there as it was: the card of the given statement.
  Conditions: the row's own (the package-level tables that it names read as laid); no other.
-/
import Derived.Test.YtnoplfndpemmpaaGreatDoorLawTR
import Derived.Test.YtnoplfndpemmpaaGreatDoorConTopV
import Derived.Test.YtnoplfndpemmpaaGreatDoorFactsTR
namespace Go.Abs.TE.TellRecs
open Go Go.Abs Go.Proofs Go.Proofs.YtnoplfndpemmpaaGreatDoor Go.ChangeShapes Go.WideShapes Go.ChangeAt Go.RowKit Go.Abs.TE
theorem res : Tryz.f6.resultTypes = #[4] := by kernel_rfl
theorem read : (Tryz.f6.params.toList.all fun t => Tryz.prog.readableRec t && decide (t < Tryz.prog.types.size)) = true := by kernel_rfl
theorem in_wide : ("flipbook/glyph.wide", Rows.laid_flipbook_glyph_wide) ∈ Rows.tellRecsRow.laid := List.mem_cons_self
theorem in_pow : ("internal/strconv.uint64pow10", Rows.laid_internal_strconv_uint64pow10) ∈ Rows.tellRecsRow.laid := List.mem_cons_of_mem _ (List.mem_cons_of_mem _ (List.mem_cons_of_mem _ (List.mem_cons_of_mem _ (List.mem_cons_self))))
theorem gw {W : World} (h : laidMet Tryz.prog Rows.tellRecsRow.laid W) : GW W := ⟨gw_wide h in_wide, gw_pow h in_pow⟩
theorem eq0 : eqOk Tryz.prog 40 100 [.int .i64, .int .i64, .str, .int .i64, .int .i64] = true := by kernel_rfl
theorem eq1 : eqOk Tryz.prog 40 3 [.int .i64] = true := by kernel_rfl
theorem ce0 : Tryz.prog.cellsOf 100 = ([.int .i64, .int .i64, .str, .int .i64, .int .i64] : List Sh).length := by kernel_rfl
theorem ce1 : Tryz.prog.cellsOf 3 = ([.int .i64] : List Sh).length := by kernel_rfl
set_option maxRecDepth 100000 in
theorem contract (H : Type) (enc : TypeId × Value → H) (W : World) (base : Nat) (args : Array Value) (ds gs : List (DataW H)) (before : List MemPlace)
    (hval : ∀ (j : Nat) t v, Tryz.f6.params[j]? = some t → args[j]? = some v → Value.okWide Tryz.prog W .any base t v)
    (hW : DataW.Whole enc Tryz.prog Tryz.f6.params.toList Rows.tellRecsSpec.vars false W args.toList ds gs before) (hL : laidMetH Tryz.prog Rows.tellRecsRow.laid W) :
    Calls Tryz.prog 6 args W fun e W' => ∃ v, e = .returned v ∧ Rows.tellRecsSpec.post enc Tryz.prog Tryz.f6 false true false false W args v W' := by
  have hW' := hW
  obtain ⟨p, q, hA, hV, rfl, hfz, hnd⟩ := hW
  rw [Tryz.params6] at hA hval
  obtain ⟨v0, vs0, d0, ds0, p0, q0, hargs, rfl, rfl, h0, r0⟩ := trodAll_cons hA
  obtain ⟨rfl, rfl, rfl⟩ := trodAll_nil r0
  obtain ⟨rfl, rfl⟩ := trodVars_none hV
  obtain rfl : args = #[v0] := by cases args; simp_all
  have hL' : laidMet Tryz.prog Rows.tellRecsRow.laid W := hL
  have hG := gw hL'
  obtain ⟨n0, n1, w2, w3, e2, e3, r2, r3, rfl, okw2, tr2, okw3, tr3⟩ := plan_open (hval 0 50 v0 rfl rfl) h0
  obtain ⟨pl0, l0, a0, ok0, B0, hn0, ho0, hb0, k0⟩ := arg_sl eEv (fun _ => True) rfl conv_ev 13 eq0 Tryz.underlying47 ce0 (by decide) okw2 tr2 (pow_nil hG.pow rfl)
  obtain ⟨pl1, l1, a1, ok1, B1, hn1, ho1, hb1, k1⟩ := arg_sl eI64 (fun _ => True) rfl conv_i64 14 eq1 Tryz.underlying48 ce1 (by decide) okw3 tr3 (pow_nil hG.pow rfl)
  have hH := hG.hrel [pl0, pl1] [.row (eEv.all l0) .ro, .row (eI64.all l1) .ro] (fun b x hb => by match b, hb with | 0, hb => (simp at hb; subst hb; rfl) | 1, hb => (simp at hb; subst hb; rfl) | b + 2, hb => (simp at hb)) fun b pl hb => by
    match b, hb with
    | 0, hb => simp at hb; subst hb; exact ⟨_, rfl, B0 _, rfl⟩
    | 1, hb => simp at hb; subst hb; exact ⟨_, rfl, B1 _, rfl⟩
    | b + 2, hb => simp at hb
  obtain ⟨σ1, hc⟩ := law_TellRecs ⟨⟨n0, n1⟩, a0, a1⟩ (pow0_ok [.row (eEv.all l0) .ro, .row (eI64.all l1) .ro]) hn0 (fun h => arg_is hn0 ho0 hb0 (k := 13) rfl h)
  have := law_calls (P := Tryz.prog) (F := 6) (xs := [t_law13_Plan.av ⟨⟨n0, n1⟩, a0, a1⟩]) (ws := [.agg #[.int .i64 n0, .int .i64 n1, w2, w3]]) hH (pow0_rw fun b x hb => by match b, hb with | 0, hb => (simp at hb; subst hb; rfl) | 1, hb => (simp at hb; subst hb; rfl) | b + 2, hb => (simp at hb)) (glob_grel _ _) (by
    simp only [VRels]
    exact ⟨_, _, rfl, plan_vrel (k0 _ _ rfl) (k1 _ _ rfl), rfl⟩) hc
  refine this.mono fun e W' ⟨cv, he, ⟨ρ', hv⟩, hb⟩ => ?_
  have hv' : cv = .bool true := by simpa [tBool, VRel] using hv
  subst hv'
  exact ⟨_, he, law_post laidOut read res Tryz.underlying4 rfl hW' rfl hb⟩
def zargs : Array Value := #[.agg #[.int .i64 0, .int .i64 0, .slice none 0 0, .slice none 0 0]]
noncomputable def low : Nat := (World.holding Tryz.prog default ⟨#[], #[], []⟩).heap.size
noncomputable def laidHeap (os : Os) := (World.holding Tryz.prog os ⟨#[.cells #[.string ⟨#[105, 110, 118, 97, 108, 105, 100, 32, 115, 121, 110, 116, 97, 120]⟩] 466, .cells #[.string ⟨#[118, 97, 108, 117, 101, 32, 111, 117, 116, 32, 111, 102, 32, 114, 97, 110, 103, 101]⟩] 466], #[], []⟩).heap
noncomputable def laidHeap0 (os : Os) := (laidHeap os).modify 0 fun
      | .cells _ t frozen => .cells #[.string ⟨#[115, 112, 108, 105, 116]⟩, .string ⟨#[102, 108, 97, 116]⟩, .string ⟨#[107, 105, 108, 108]⟩, .string ⟨#[102, 111, 99, 117, 115]⟩, .string ⟨#[109, 97, 114, 107]⟩, .string ⟨#[114, 101, 119, 105, 110, 100]⟩, .string ⟨#[102, 105, 110, 100]⟩, .string ⟨#[112, 108, 97, 121]⟩, .string ⟨#[112, 97, 117, 115, 101]⟩, .string ⟨#[115, 116, 101, 112]⟩, .string ⟨#[108, 105, 118, 101]⟩, .string ⟨#[115, 121, 110, 99]⟩, .string ⟨#[102, 105, 110, 105, 115, 104]⟩, .string ⟨#[116, 114, 105, 109]⟩, .string ⟨#[106, 111, 105, 110]⟩, .string ⟨#[101, 120, 112, 111, 114, 116]⟩, .string ⟨#[98, 105, 110, 100]⟩, .string ⟨#[117, 110, 98, 105, 110, 100]⟩] t frozen
      | o => o
noncomputable def laidHeap1 (os : Os) := (laidHeap0 os).modify 1 fun
      | .cells _ t frozen => .cells (Lib.firstTab.map fun z => Value.int .u8 z).toArray t frozen
      | o => o
noncomputable def laidHeap2 (os : Os) := (laidHeap1 os).modify 2 fun
      | .cells _ t frozen => .cells (((List.range 32).map fun j => (if j % 2 = 0 then Lib.accLo (j / 2) else Lib.accHi (j / 2) : Int)).map fun z => Value.int .u8 z).toArray t frozen
      | o => o
noncomputable def laidHeap3 (os : Os) := (laidHeap2 os).modify 3 fun
      | .cells _ t frozen => .cells ([9670, 9618, 9225, 9228, 9229, 9226, 176, 177, 9252, 9227, 9496, 9488, 9484, 9492, 9532, 9146, 9147, 9472, 9148, 9149, 9500, 9508, 9524, 9516, 9474, 8804, 8805, 960, 8800, 163, 183].map fun z => Value.int .i32 z).toArray t frozen
      | o => o
noncomputable def laidHeap4 (os : Os) := (laidHeap3 os).modify 4 fun
      | .cells _ t frozen => .cells (sigs.map fun z => Value.int .i32 z).toArray t frozen
      | o => o
noncomputable def laidHeap5 (os : Os) := (laidHeap4 os).modify 5 fun
      | .cells _ t frozen => .cells (pows.map fun z => Value.int .u64 z).toArray t frozen
      | o => o
noncomputable def laidHeap6 (os : Os) := (laidHeap5 os).modify 8 fun
      | .cells _ t frozen => .cells ([0, 1, 28, 2, 29, 14, 24, 3, 30, 22, 20, 15, 25, 17, 4, 8, 31, 27, 13, 23, 21, 19, 16, 7, 26, 12, 18, 6, 11, 5, 10, 9].map fun z => Value.int .u8 z).toArray t frozen
      | o => o
noncomputable def laidHeap7 (os : Os) := (laidHeap6 os).modify 9 fun
      | .cells _ t frozen => .cells ([0, 1, 56, 2, 57, 49, 28, 3, 61, 58, 42, 50, 38, 29, 17, 4, 62, 47, 59, 36, 45, 43, 51, 22, 53, 39, 33, 30, 24, 18, 12, 5, 63, 55, 48, 27, 60, 41, 37, 16, 46, 35, 44, 21, 52, 32, 23, 11, 54, 26, 40, 15, 34, 20, 31, 10, 25, 14, 19, 9, 13, 8, 7, 6].map fun z => Value.int .u8 z).toArray t frozen
      | o => o
noncomputable def laidHeap8 (os : Os) := (laidHeap7 os).modify 11 fun
      | .cells _ t frozen => .cells #[.iface 464 (.pointer (some ⟨low + 0, 0, none⟩))] t frozen
      | o => o
noncomputable def laidHeap9 (os : Os) := (laidHeap8 os).modify 12 fun
      | .cells _ t frozen => .cells #[.iface 464 (.pointer (some ⟨low + 1, 0, none⟩))] t frozen
      | o => o
noncomputable def laidWorld (os : Os) : World := { World.holding Tryz.prog os ⟨#[.cells #[.string ⟨#[105, 110, 118, 97, 108, 105, 100, 32, 115, 121, 110, 116, 97, 120]⟩] 466, .cells #[.string ⟨#[118, 97, 108, 117, 101, 32, 111, 117, 116, 32, 111, 102, 32, 114, 97, 110, 103, 101]⟩] 466], #[], []⟩ with heap := laidHeap9 os }
set_option maxRecDepth 100000 in
theorem laid_met (os : Os) : laidMet Tryz.prog Rows.tellRecsRow.laid ((laidWorld os).forCall (fun _ _ => 0) ⟨#[], zargs, []⟩).memory :=
  laidMet_of_run' 8 (by kernel_rfl) (by kernel_rfl)
theorem reads (os : Os) {H : Type} (enc : TypeId × Value → H) : ∃ places, DataW.whole enc Tryz.prog ((laidWorld os).forCall (fun _ _ => 0) ⟨#[], zargs, []⟩).memory Tryz.f6.params.toList Rows.tellRecsSpec.vars false zargs.toList 8 = some ([.agg [.agg [.lit (.int .i64 0), .lit (.int .i64 0)], .nil, .nil]], [], places) :=
  ⟨[], by kernel_rfl⟩
set_option maxRecDepth 100000 in
theorem lifted (os : Os) (started : os.Started) (H : Type) (enc : TypeId × Value → H) (F : Stop.Interp) :
    ReturnsInHanded {} Tryz.checked os 6 .any ((OpenSpec.ofChange Rows.tellRecsSpec).preRow enc Tryz.prog Tryz.f6 Rows.tellRecsRow.domain false Rows.tellRecsRow.laid) (((OpenSpec.ofChange Rows.tellRecsSpec).at F).post enc Tryz.prog Tryz.f6 false true false false) := by
  obtain ⟨places, hx⟩ := reads os enc
  refine returnsInHanded_of_row (C := Tryz.checked) (s := OpenSpec.ofChange Rows.tellRecsSpec) own started (by kernel_rfl) Tryz.func6
    (witness_row_at (enc := enc) (C := Tryz.checked) false (laidWorld os) zargs rfl (by kernel_rfl) (by kernel_rfl) (by kernel_rfl)
      (OpenSpec.preRow_of_cond 8 hx (by kernel_rfl) (fun k hk => by cases hk) (by kernel_rfl) (laid_met os))) ?_
  intro W base args ds gs before hval hW _ _ _ hL _ _
  exact contract H enc W base args ds gs before hval hW hL
theorem nm : Tryz.prog.funcNamed Rows.tellRecsRow.func = some 6 := by kernel_rfl
theorem inst : Tryz.f6.isInstance Tryz.prog Rows.tellRecsRow.origin Rows.tellRecsRow.targs := of_decide_eq_true (by kernel_rfl)
theorem wrap : Tryz.f6.isWrapper Tryz.prog Rows.tellRecsRow.wrapper Rows.tellRecsRow.mainSum := by unfold Func.isWrapper; first | (rw [if_pos (by decide +kernel)]; kernel_rfl) | (rw [if_neg (by decide +kernel)]; exact ⟨rfl, rfl⟩)
theorem said : Rows.TellRecsSaid :=
  OpenClaim.holds_of_cond 6 Tryz.f6 rfl rfl rfl rfl rfl rfl rfl ⟨rfl, rfl, rfl, rfl, rfl⟩ rfl rfl rfl rfl rfl nm Tryz.func6 facts inst wrap
    (fun os started H enc _ F => by rw [OpenClaim.pre_eq_preRow]; exact lifted os started H enc F)
theorem plain (f : FuncId) (fn : Func) (hf : Tryz.pinned.checked.prog.funcNamed "flipbook/flipbooklaw26.TellRecs" = some f) (hfn : Tryz.pinned.checked.prog.funcs[f]? = some fn) :
    true = Tryz.pinned.checked.prog.looks [] ∧ ∀ (j : Nat) t, fn.params[j]? = some t → Tryz.pinned.checked.prog.wantsStandIn t = false := by
  obtain rfl : f = 6 := Option.some.inj ((show Tryz.prog.funcNamed "flipbook/flipbooklaw26.TellRecs" = some 6 by kernel_rfl).symm.trans hf) |>.symm
  obtain rfl : fn = Tryz.f6 := (Option.some.inj (Tryz.func6.symm.trans hfn)).symm
  refine ⟨by kernel_rfl, fun j t ht => ?_⟩
  rw [Tryz.params6] at ht
  have : t = 50 := by simpa using Array.mem_of_getElem? ht
  subst this
  exact (show Tryz.prog.wantsStandIn 50 = false by kernel_rfl)
theorem card : Rows.TellRecsCardSaid :=
  Claim7.holds_tied_plain_at .later [] _ _ _ _ said (fun _ h => by cases h) card1 (fun _ h => by cases h) tellRecs_row_tie rfl ⟨rfl, rfl⟩ (by kernel_rfl) rfl plain card3
end Go.Abs.TE.TellRecs
namespace Go.Proofs.YtnoplfndpemmpaaGreatDoor
theorem tellRecs_card : Rows.TellRecsCardSaid := Go.Abs.TE.TellRecs.card
end Go.Proofs.YtnoplfndpemmpaaGreatDoor
