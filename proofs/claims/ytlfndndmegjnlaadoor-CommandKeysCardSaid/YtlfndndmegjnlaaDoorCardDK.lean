/-
CommandKeys returns true at every input, and leaves what was there as it was: the card of the given statement.
  Conditions: the row's own (the package-level tables that it names read as laid); no other.
-/
import Derived.Test.YtlfndndmegjnlaaDoorMConV
import Derived.Test.YtlfndndmegjnlaaDoorConTopE
namespace Go.Abs.TD.CommandKeys
open Go Go.Abs Go.Proofs Go.Proofs.YtlfndndmegjnlaaDoor Go.ChangeShapes Go.WideShapes Go.ChangeAt Go.RowKit Go.Abs.TD
theorem res : Tryd.f7.resultTypes = #[4] := by kernel_rfl
theorem read : (Tryd.f7.params.toList.all fun t => Tryd.prog.readableRec t && decide (t < Tryd.prog.types.size)) = true := by kernel_rfl
theorem in_pow : ("internal/strconv.uint64pow10", Rows.laid_internal_strconv_uint64pow10) ∈ Rows.commandKeysRow.laid := List.mem_cons_of_mem _ (List.mem_cons_of_mem _ (List.mem_cons_self))
theorem in_syn : ("strconv.ErrSyntax", Rows.laid_strconv_ErrSyntax) ∈ Rows.commandKeysRow.laid := List.mem_cons_of_mem _ (List.mem_cons_of_mem _ (List.mem_cons_of_mem _ (List.mem_cons_of_mem _ (List.mem_cons_self))))
theorem in_rng : ("strconv.ErrRange", Rows.laid_strconv_ErrRange) ∈ Rows.commandKeysRow.laid := List.mem_cons_of_mem _ (List.mem_cons_of_mem _ (List.mem_cons_of_mem _ (List.mem_cons_self)))
theorem in_words : ("flipbook/command.words", Rows.laid_flipbook_command_words) ∈ Rows.commandKeysRow.laid := List.mem_cons_of_mem _ (List.mem_cons_of_mem _ (List.mem_cons_of_mem _ (List.mem_cons_of_mem _ (List.mem_cons_of_mem _ (List.mem_cons_self)))))
theorem eq0 : eqOk Tryd.prog 40 57 [.int .u8, .str] = true := by kernel_rfl
theorem ce0 : Tryd.prog.cellsOf 57 = ([.int .u8, .str] : List Sh).length := by kernel_rfl
set_option maxRecDepth 100000 in
theorem contract (H : Type) (enc : TypeId × Value → H) (W : World) (base : Nat) (args : Array Value) (ds gs : List (DataW H)) (before : List MemPlace)
    (hval : ∀ (j : Nat) t v, Tryd.f7.params[j]? = some t → args[j]? = some v → Value.okWide Tryd.prog W .any base t v)
    (hW : DataW.Whole enc Tryd.prog Tryd.f7.params.toList Rows.commandKeysSpec.vars false W args.toList ds gs before) (hL : laidMetH Tryd.prog Rows.commandKeysRow.laid W) (hsh : W.ShapedOpen Tryd.prog) :
    Calls Tryd.prog 7 args W fun e W' => ∃ v, e = .returned v ∧ Rows.commandKeysSpec.post enc Tryd.prog Tryd.f7 false true false false W args v W' := by
  have hW' := hW
  obtain ⟨p, q, hA, hV, rfl, hfz, hnd⟩ := hW
  rw [Tryd.params7] at hA hval
  obtain ⟨v0, vs0, d0, ds0, p0, q0, hargs, rfl, rfl, h0, r0⟩ := trodAll_cons hA
  obtain ⟨v1, vs1, d1, ds1, p1, q1, rfl, rfl, rfl, h1, r1⟩ := trodAll_cons r0
  obtain ⟨rfl, rfl, rfl⟩ := trodAll_nil r1
  obtain ⟨rfl, rfl⟩ := trodVars_none hV
  obtain rfl : args = #[v0, v1] := by cases args; simp_all
  have hL' : laidMet Tryd.prog Rows.commandKeysRow.laid W := hL
  obtain ⟨m, hm⟩ := max_ints hsh
  have hG : GW m W := ⟨gw_words hL' in_words, hm, gw_pow hL' in_pow, gw_syn hL' in_syn, gw_rng hL' in_rng⟩
  obtain ⟨pl0, l0, a0, ok0, B0, hn0, ho0, hb0, k0⟩ := arg_sl eKT (fun a => 0 ≤ a.1) rfl conv_kt 5 eq0 Tryd.underlying33 ce0 (by decide) (hval 0 33 v0 rfl rfl) h0 (max_nil hm)
  obtain ⟨a1, rfl, _, _, wf1⟩ := open_str Tryd.underlying9 (hval 1 9 v1 rfl rfl) h1
  have hH := hG.hrel [pl0] [.row (eKT.all l0) .ro] fun b pl hb => by
    match b, hb with
    | 0, hb => simp at hb; subst hb; exact ⟨_, rfl, B0 _, rfl⟩
    | b + 1, hb => simp at hb
  obtain ⟨σ1, hc⟩ := law_CommandKeys a0 a1 (glob0_ok m [.row (eKT.all l0) .ro]) hn0 (fun h => arg_is hn0 ho0 hb0 (k := 5) rfl h) ok0
  have := law_calls (P := Tryd.prog) (F := 7) (xs := [(tSl eKT.z).av a0, tStr.av a1]) (ws := [v0, .string a1]) hH (glob0_rw fun b x hb => by match b, hb with | 0, hb => (simp at hb; subst hb; rfl) | b + 1, hb => (simp at hb)) (glob_grel _) (by
    simp only [VRels]
    exact ⟨_, _, rfl, k0 _ _ rfl, ⟨_, _, rfl, (by simp [tStr, VRel]), rfl⟩⟩) hc
  refine this.mono fun e W' ⟨cv, he, ⟨ρ', hv⟩, hb⟩ => ?_
  have hv' : cv = .bool true := by simpa [tBool, VRel] using hv
  subst hv'
  exact ⟨_, he, law_post laidOut read res Tryd.underlying4 rfl hW' rfl hb⟩
def zargs : Array Value := #[.slice none 0 0, .string ⟨#[]⟩]
noncomputable def low : Nat := (World.holding Tryd.prog default ⟨#[], #[], []⟩).heap.size
noncomputable def laidHeap (os : Os) := (World.holding Tryd.prog os ⟨#[.cells #[.string ⟨#[105, 110, 118, 97, 108, 105, 100, 32, 115, 121, 110, 116, 97, 120]⟩] 108, .cells #[.string ⟨#[118, 97, 108, 117, 101, 32, 111, 117, 116, 32, 111, 102, 32, 114, 97, 110, 103, 101]⟩] 108], #[], []⟩).heap
noncomputable def laidHeap0 (os : Os) := (laidHeap os).modify 2 fun
      | .cells _ t frozen => .cells (powInts.map fun z => Value.int .u64 z).toArray t frozen
      | o => o
noncomputable def laidHeap1 (os : Os) := (laidHeap0 os).modify 5 fun
      | .cells _ t frozen => .cells ([0, 1, 28, 2, 29, 14, 24, 3, 30, 22, 20, 15, 25, 17, 4, 8, 31, 27, 13, 23, 21, 19, 16, 7, 26, 12, 18, 6, 11, 5, 10, 9].map fun z => Value.int .u8 z).toArray t frozen
      | o => o
noncomputable def laidHeap2 (os : Os) := (laidHeap1 os).modify 6 fun
      | .cells _ t frozen => .cells ([0, 1, 56, 2, 57, 49, 28, 3, 61, 58, 42, 50, 38, 29, 17, 4, 62, 47, 59, 36, 45, 43, 51, 22, 53, 39, 33, 30, 24, 18, 12, 5, 63, 55, 48, 27, 60, 41, 37, 16, 46, 35, 44, 21, 52, 32, 23, 11, 54, 26, 40, 15, 34, 20, 31, 10, 25, 14, 19, 9, 13, 8, 7, 6].map fun z => Value.int .u8 z).toArray t frozen
      | o => o
noncomputable def laidHeap3 (os : Os) := (laidHeap2 os).modify 0 fun
      | .cells _ t frozen => .cells (wordsL.map fun w => Value.string (ba w)).toArray t frozen
      | o => o
noncomputable def laidHeap4 (os : Os) := (laidHeap3 os).modify 3 fun
      | .cells _ t frozen => .cells #[.iface 106 (.pointer (some ⟨low + 0, 0, none⟩))] t frozen
      | o => o
noncomputable def laidHeap5 (os : Os) := (laidHeap4 os).modify 4 fun
      | .cells _ t frozen => .cells #[.iface 106 (.pointer (some ⟨low + 1, 0, none⟩))] t frozen
      | o => o
noncomputable def laidWorld (os : Os) : World := { World.holding Tryd.prog os ⟨#[.cells #[.string ⟨#[105, 110, 118, 97, 108, 105, 100, 32, 115, 121, 110, 116, 97, 120]⟩] 108, .cells #[.string ⟨#[118, 97, 108, 117, 101, 32, 111, 117, 116, 32, 111, 102, 32, 114, 97, 110, 103, 101]⟩] 108], #[], []⟩ with heap := laidHeap5 os }
set_option maxRecDepth 100000 in
theorem laid_met (os : Os) : laidMet Tryd.prog Rows.commandKeysRow.laid ((laidWorld os).forCall (fun _ _ => 0) ⟨#[], zargs, []⟩).memory :=
  laidMet_of_run' 8 (by kernel_rfl) (by kernel_rfl)
theorem reads (os : Os) {H : Type} (enc : TypeId × Value → H) : ∃ places, DataW.whole enc Tryd.prog ((laidWorld os).forCall (fun _ _ => 0) ⟨#[], zargs, []⟩).memory Tryd.f7.params.toList Rows.commandKeysSpec.vars false zargs.toList 8 = some ([.nil, .lit (.string [])], [], places) :=
  ⟨[], by kernel_rfl⟩
set_option maxRecDepth 100000 in
theorem lifted (os : Os) (started : os.Started) (H : Type) (enc : TypeId × Value → H) (F : Stop.Interp) :
    ReturnsInHanded {} Tryd.checked os 7 .any ((OpenSpec.ofChange Rows.commandKeysSpec).preRow enc Tryd.prog Tryd.f7 Rows.commandKeysRow.domain false Rows.commandKeysRow.laid) (((OpenSpec.ofChange Rows.commandKeysSpec).at F).post enc Tryd.prog Tryd.f7 false true false false) := by
  obtain ⟨places, hx⟩ := reads os enc
  refine returnsInHanded_of_row (C := Tryd.checked) (s := OpenSpec.ofChange Rows.commandKeysSpec) own started (by kernel_rfl) Tryd.func7
    (witness_row_at (enc := enc) (C := Tryd.checked) false (laidWorld os) zargs rfl (by kernel_rfl) (by kernel_rfl) (by kernel_rfl)
      (OpenSpec.preRow_of_cond 8 hx (by kernel_rfl) (fun k hk => by cases hk) (by kernel_rfl) (laid_met os))) ?_
  intro W base args ds gs before hval hW _ _ _ hL hsh _
  exact contract H enc W base args ds gs before hval hW hL hsh
theorem said : Rows.CommandKeysSaid :=
  OpenClaim.holds_of_cond 7 Tryd.f7 rfl rfl rfl rfl rfl rfl rfl ⟨rfl, rfl, rfl, rfl, rfl⟩ rfl rfl rfl rfl rfl (by kernel_rfl) Tryd.func7 (by kernel_rfl)
    (of_decide_eq_true (by kernel_rfl)) (by unfold Func.isWrapper; first | (rw [if_pos (by decide +kernel)]; kernel_rfl) | (rw [if_neg (by decide +kernel)]; exact ⟨rfl, rfl⟩))
    (fun os started H enc _ F => by rw [OpenClaim.pre_eq_preRow]; exact lifted os started H enc F)
theorem plain (f : FuncId) (fn : Func) (hf : Tryd.pinned.checked.prog.funcNamed "flipbook/flipbooklaw21.CommandKeys" = some f) (hfn : Tryd.pinned.checked.prog.funcs[f]? = some fn) :
    true = Tryd.pinned.checked.prog.looks [] ∧ ∀ (j : Nat) t, fn.params[j]? = some t → Tryd.pinned.checked.prog.wantsStandIn t = false := by
  obtain rfl : f = 7 := Option.some.inj ((show Tryd.prog.funcNamed "flipbook/flipbooklaw21.CommandKeys" = some 7 by kernel_rfl).symm.trans hf) |>.symm
  obtain rfl : fn = Tryd.f7 := (Option.some.inj (Tryd.func7.symm.trans hfn)).symm
  refine ⟨by kernel_rfl, fun j t ht => ?_⟩
  rw [Tryd.params7] at ht
  have : t = 33 ∨ t = 9 := by simpa using Array.mem_of_getElem? ht
  rcases this with rfl | rfl
  · exact (show Tryd.prog.wantsStandIn 33 = false by kernel_rfl)
  · exact (show Tryd.prog.wantsStandIn 9 = false by kernel_rfl)
theorem card : Rows.CommandKeysCardSaid :=
  Claim7.holds_tied_plain_at .later [] _ _ _ _ said (fun _ h => by cases h) (by kernel_rfl) (fun _ h => by cases h) commandKeys_row_tie rfl ⟨rfl, rfl⟩ (by kernel_rfl) rfl plain (by kernel_rfl)
end Go.Abs.TD.CommandKeys
namespace Go.Proofs.YtlfndndmegjnlaaDoor
theorem commandKeys_card : Rows.CommandKeysCardSaid := Go.Abs.TD.CommandKeys.card
end Go.Proofs.YtlfndndmegjnlaaDoor
