/-
CastAny returns true at every input, and leaves what was there as it was: the card of the given statement.
  Conditions: the row's own (the package-level tables that it names read as laid); no other.
-/
import Derived.Test.YtohlebkhlbcnaaaDoorLawTA
import Derived.Test.YtohlebkhlbcnaaaDoorConTopB
namespace Go.Abs.TB.CastAny
open Go Go.Abs Go.Proofs Go.Proofs.YtohlebkhlbcnaaaDoor Go.ChangeShapes Go.WideShapes Go.ChangeAt Go.RowKit Go.Abs.TB
theorem res : Tryd.f12.resultTypes = #[4] := by kernel_rfl
theorem read : (Tryd.f12.params.toList.all fun t => Tryd.prog.readableRec t && decide (t < Tryd.prog.types.size)) = true := by kernel_rfl
theorem in_pow : ("internal/strconv.uint64pow10", Rows.laid_internal_strconv_uint64pow10) ∈ Rows.castAnyRow.laid := List.mem_cons_of_mem _ (List.mem_cons_of_mem _ (List.mem_cons_self))
theorem in_acc : ("unicode/utf8.acceptRanges", Rows.laid_unicode_utf8_acceptRanges) ∈ Rows.castAnyRow.laid := List.mem_cons_of_mem _ (List.mem_cons_of_mem _ (List.mem_cons_of_mem _ (List.mem_cons_self)))
theorem in_first : ("unicode/utf8.first", Rows.laid_unicode_utf8_first) ∈ Rows.castAnyRow.laid := List.mem_cons_of_mem _ (List.mem_cons_of_mem _ (List.mem_cons_of_mem _ (List.mem_cons_of_mem _ (List.mem_cons_of_mem _ (List.mem_cons_of_mem _ (List.mem_cons_self))))))
theorem in_syn : ("strconv.ErrSyntax", Rows.laid_strconv_ErrSyntax) ∈ Rows.castAnyRow.laid := List.mem_cons_of_mem _ (List.mem_cons_of_mem _ (List.mem_cons_of_mem _ (List.mem_cons_of_mem _ (List.mem_cons_of_mem _ (List.mem_cons_self)))))
theorem in_rng : ("strconv.ErrRange", Rows.laid_strconv_ErrRange) ∈ Rows.castAnyRow.laid := List.mem_cons_of_mem _ (List.mem_cons_of_mem _ (List.mem_cons_of_mem _ (List.mem_cons_of_mem _ (List.mem_cons_self))))
theorem gw {W : World} (h : laidMet Tryd.prog Rows.castAnyRow.laid W) : GW true true W :=
  ⟨gw_pow h in_pow, fun _ => gw_first h in_first, fun _ => gw_acc h in_acc, fun _ => gw_syn h in_syn, fun _ => gw_rng h in_rng⟩
set_option maxRecDepth 100000 in
theorem contract (H : Type) (enc : TypeId × Value → H) (W : World) (base : Nat) (args : Array Value) (ds gs : List (DataW H)) (before : List MemPlace)
    (hval : ∀ (j : Nat) t v, Tryd.f12.params[j]? = some t → args[j]? = some v → Value.okWide Tryd.prog W .any base t v)
    (hW : DataW.Whole enc Tryd.prog Tryd.f12.params.toList Rows.castAnySpec.vars false W args.toList ds gs before) (hL : laidMetH Tryd.prog Rows.castAnyRow.laid W) :
    Calls Tryd.prog 12 args W fun e W' => ∃ v, e = .returned v ∧ Rows.castAnySpec.post enc Tryd.prog Tryd.f12 false true false false W args v W' := by
  have hW' := hW
  obtain ⟨p, q, hA, hV, rfl, hfz, hnd⟩ := hW
  rw [Tryd.params12] at hA hval
  obtain ⟨v0, vs0, d0, ds0, p0, q0, hargs, rfl, rfl, h0, r0⟩ := trodAll_cons hA
  obtain ⟨rfl, rfl, rfl⟩ := trodAll_nil r0
  obtain ⟨rfl, rfl⟩ := trodVars_none hV
  obtain rfl : args = #[v0] := by cases args; simp_all
  have hL' : laidMet Tryd.prog Rows.castAnyRow.laid W := hL
  have hG := gw hL'
  obtain ⟨a0, rfl, _, _, wf0⟩ := open_str Tryd.underlying9 (hval 0 9 v0 rfl rfl) h0
  have hH := hG.hrel [] [] (fun b x hb => by simp at hb) fun b pl hb => by
    simp at hb
  obtain ⟨σ1, hc⟩ := law_CastAny a0 (pow0_ok true true []) 
  have := law_calls (P := Tryd.prog) (F := 12) (xs := [tStr.av a0]) (ws := [.string a0]) hH (pow0_rw fun b x hb => by simp at hb) (glob_grel _ _) (by
    simp only [VRels]
    exact ⟨_, _, rfl, (by simp [tStr, VRel]), rfl⟩) hc
  refine this.mono fun e W' ⟨cv, he, ⟨ρ', hv⟩, hb⟩ => ?_
  have hv' : cv = .bool true := by simpa [tBool, VRel] using hv
  subst hv'
  exact ⟨_, he, law_post laidOut read res Tryd.underlying4 rfl hW' rfl hb⟩
def zargs : Array Value := #[.string ⟨#[]⟩]
noncomputable def low : Nat := (World.holding Tryd.prog default ⟨#[], #[], []⟩).heap.size
noncomputable def laidHeap (os : Os) := (World.holding Tryd.prog os ⟨#[.cells #[.string ⟨#[105, 110, 118, 97, 108, 105, 100, 32, 115, 121, 110, 116, 97, 120]⟩] 107, .cells #[.string ⟨#[118, 97, 108, 117, 101, 32, 111, 117, 116, 32, 111, 102, 32, 114, 97, 110, 103, 101]⟩] 107], #[], []⟩).heap
noncomputable def laidHeap0 (os : Os) := (laidHeap os).modify 4 fun
      | .cells _ t frozen => .cells (powInts.map fun z => Value.int .u64 z).toArray t frozen
      | o => o
noncomputable def laidHeap1 (os : Os) := (laidHeap0 os).modify 5 fun
      | .cells _ t frozen => .cells ([0, 1, 28, 2, 29, 14, 24, 3, 30, 22, 20, 15, 25, 17, 4, 8, 31, 27, 13, 23, 21, 19, 16, 7, 26, 12, 18, 6, 11, 5, 10, 9].map fun z => Value.int .u8 z).toArray t frozen
      | o => o
noncomputable def laidHeap2 (os : Os) := (laidHeap1 os).modify 6 fun
      | .cells _ t frozen => .cells ([0, 1, 56, 2, 57, 49, 28, 3, 61, 58, 42, 50, 38, 29, 17, 4, 62, 47, 59, 36, 45, 43, 51, 22, 53, 39, 33, 30, 24, 18, 12, 5, 63, 55, 48, 27, 60, 41, 37, 16, 46, 35, 44, 21, 52, 32, 23, 11, 54, 26, 40, 15, 34, 20, 31, 10, 25, 14, 19, 9, 13, 8, 7, 6].map fun z => Value.int .u8 z).toArray t frozen
      | o => o
noncomputable def laidHeap3 (os : Os) := (laidHeap2 os).modify 0 fun
      | .cells _ t frozen => .cells (Lib.firstTab.map fun z => Value.int .u8 z).toArray t frozen
      | o => o
noncomputable def laidHeap4 (os : Os) := (laidHeap3 os).modify 1 fun
      | .cells _ t frozen => .cells (accInts.map fun z => Value.int .u8 z).toArray t frozen
      | o => o
noncomputable def laidHeap5 (os : Os) := (laidHeap4 os).modify 2 fun
      | .cells _ t frozen => .cells #[.iface 105 (.pointer (some ⟨low + 0, 0, none⟩))] t frozen
      | o => o
noncomputable def laidHeap6 (os : Os) := (laidHeap5 os).modify 3 fun
      | .cells _ t frozen => .cells #[.iface 105 (.pointer (some ⟨low + 1, 0, none⟩))] t frozen
      | o => o
noncomputable def laidWorld (os : Os) : World := { World.holding Tryd.prog os ⟨#[.cells #[.string ⟨#[105, 110, 118, 97, 108, 105, 100, 32, 115, 121, 110, 116, 97, 120]⟩] 107, .cells #[.string ⟨#[118, 97, 108, 117, 101, 32, 111, 117, 116, 32, 111, 102, 32, 114, 97, 110, 103, 101]⟩] 107], #[], []⟩ with heap := laidHeap6 os }
set_option maxRecDepth 100000 in
theorem laid_met (os : Os) : laidMet Tryd.prog Rows.castAnyRow.laid ((laidWorld os).forCall (fun _ _ => 0) ⟨#[], zargs, []⟩).memory :=
  laidMet_of_run' 8 (by kernel_rfl) (by kernel_rfl)
theorem reads (os : Os) {H : Type} (enc : TypeId × Value → H) : ∃ places, DataW.whole enc Tryd.prog ((laidWorld os).forCall (fun _ _ => 0) ⟨#[], zargs, []⟩).memory Tryd.f12.params.toList Rows.castAnySpec.vars false zargs.toList 8 = some ([.lit (.string [])], [], places) :=
  ⟨[], by kernel_rfl⟩
set_option maxRecDepth 100000 in
theorem lifted (os : Os) (started : os.Started) (H : Type) (enc : TypeId × Value → H) (F : Stop.Interp) :
    ReturnsInHanded {} Tryd.checked os 12 .any ((OpenSpec.ofChange Rows.castAnySpec).preRow enc Tryd.prog Tryd.f12 Rows.castAnyRow.domain false Rows.castAnyRow.laid) (((OpenSpec.ofChange Rows.castAnySpec).at F).post enc Tryd.prog Tryd.f12 false true false false) := by
  obtain ⟨places, hx⟩ := reads os enc
  refine returnsInHanded_of_row (C := Tryd.checked) (s := OpenSpec.ofChange Rows.castAnySpec) own started (by kernel_rfl) Tryd.func12
    (witness_row_at (enc := enc) (C := Tryd.checked) false (laidWorld os) zargs rfl (by kernel_rfl) (by kernel_rfl) (by kernel_rfl)
      (OpenSpec.preRow_of_cond 8 hx (by kernel_rfl) (fun k hk => by cases hk) (by kernel_rfl) (laid_met os))) ?_
  intro W base args ds gs before hval hW _ _ _ hL _ _
  exact contract H enc W base args ds gs before hval hW hL
theorem said : Rows.CastAnySaid :=
  OpenClaim.holds_of_cond 12 Tryd.f12 rfl rfl rfl rfl rfl rfl rfl ⟨rfl, rfl, rfl, rfl, rfl⟩ rfl rfl rfl rfl rfl (by kernel_rfl) Tryd.func12 (by kernel_rfl)
    (of_decide_eq_true (by kernel_rfl)) (by unfold Func.isWrapper; first | (rw [if_pos (by decide +kernel)]; kernel_rfl) | (rw [if_neg (by decide +kernel)]; exact ⟨rfl, rfl⟩))
    (fun os started H enc _ F => by rw [OpenClaim.pre_eq_preRow]; exact lifted os started H enc F)
theorem plain (f : FuncId) (fn : Func) (hf : Tryd.pinned.checked.prog.funcNamed "flipbook/flipbooklaw17.CastAny" = some f) (hfn : Tryd.pinned.checked.prog.funcs[f]? = some fn) :
    true = Tryd.pinned.checked.prog.looks [] ∧ ∀ (j : Nat) t, fn.params[j]? = some t → Tryd.pinned.checked.prog.wantsStandIn t = false := by
  obtain rfl : f = 12 := Option.some.inj ((show Tryd.prog.funcNamed "flipbook/flipbooklaw17.CastAny" = some 12 by kernel_rfl).symm.trans hf) |>.symm
  obtain rfl : fn = Tryd.f12 := (Option.some.inj (Tryd.func12.symm.trans hfn)).symm
  refine ⟨by kernel_rfl, fun j t ht => ?_⟩
  rw [Tryd.params12] at ht
  have : t = 9 := by simpa using Array.mem_of_getElem? ht
  subst this
  exact (show Tryd.prog.wantsStandIn 9 = false by kernel_rfl)
theorem card : Rows.CastAnyCardSaid :=
  Claim7.holds_tied_plain_at .later [] _ _ _ _ said (fun _ h => by cases h) (by kernel_rfl) (fun _ h => by cases h) castAny_row_tie rfl ⟨rfl, rfl⟩ (by kernel_rfl) rfl plain (by kernel_rfl)
end Go.Abs.TB.CastAny
namespace Go.Proofs.YtohlebkhlbcnaaaDoor
theorem castAny_card : Rows.CastAnyCardSaid := Go.Abs.TB.CastAny.card
end Go.Proofs.YtohlebkhlbcnaaaDoor
