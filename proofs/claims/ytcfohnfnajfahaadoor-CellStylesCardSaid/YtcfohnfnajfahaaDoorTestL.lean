import Derived.Test.YtcfohnfnajfahaaDoorTestK
import Derived.Test.YtcfohnfnajfahaaDoorCards
import Derived.Test.YtcfohnfnajfahaaDoorTie
import Derived.WalkKit
import Derived.ProofKit
import Derived.Deep.DeepHandedRow
namespace Go.Abs.TA
open Go Go.Abs Go.Proofs Go.Proofs.YtcfohnfnajfahaaDoor Go.ChangeShapes Go.WideShapes Go.ChangeAt Go.RowKit
theorem gTab : Tryd.prog.globalNamed "flipbook/glyph.wide" = some 0 := by kernel_rfl
theorem gTabType : (Tryd.prog.globals[0]?).map (·.type) = some 104 := by kernel_rfl
theorem cells104 : Tryd.prog.cellsOf 104 = 18 := by kernel_rfl
theorem cells21 : Tryd.prog.cellsOf 21 = 1 := by kernel_rfl
theorem own : ownKnob Tryd.prog.godebug = none := by kernel_rfl
theorem laidOut : laidOutB Tryd.prog = true := by kernel_rfl
theorem table {W : World} (h : laidMetH Tryd.prog Rows.cellStylesRow.laid W) : Lib.TabIs Tryd.prog W "flipbook/glyph.wide" .i32 wideInts :=
  Lib.tabIs_of_head (rest := []) gTab gTabType Tryd.underlying104 Tryd.underlying21 cells21 cells104 h
def wpl : Pl := ⟨0, 0, 18⟩
theorem wide_rel {W : World} (h : Lib.TabIs Tryd.prog W "flipbook/glyph.wide" .i32 wideInts) : ∃ ty fr, W.heap[0]? = some (.cells (wideInts.map fun z => Value.int .i32 z).toArray ty fr) := by
  unfold Lib.TabIs World.var? at h
  rw [gTab] at h
  simp only [Option.bind_some] at h
  split at h
  · rename_i cs ty fr hc
    injection h with h
    subst h
    exact ⟨ty, fr, hc⟩
  · cases h
theorem wide_brel {W : World} (h : Lib.TabIs Tryd.prog W "flipbook/glyph.wide" .i32 wideInts) (ρ : Mp) : BRel ρ wpl W (.row wideRow .ro) := by
  obtain ⟨ty, fr, hc⟩ := wide_rel h
  refine ⟨_, ty, fr, hc, rfl, by simp [wpl, wideRow], fun j x hx => ?_, fun h => (by cases h), fun j hj v hv => ?_⟩
  · rw [wideRow, List.getElem?_map] at hx
    obtain ⟨n, hn, rfl⟩ := Option.map_eq_some_iff.1 hx
    exact ⟨.int .i32 n, by simp [wpl, hn], by simp [VRel]⟩
  · simp only [wpl, Nat.zero_add] at hv
    rw [List.getElem?_toArray, List.getElem?_map] at hv
    obtain ⟨n, hn, rfl⟩ := Option.map_eq_some_iff.1 hv
    rfl
theorem stOf_shape {xs : List AVal} (h : ShOKs [.bool, .bool, .bool, .int .i64, .int .i64] xs) : ∃ s : St, .agg xs = s.av := by
  obtain ⟨_, _, rfl, ⟨b0, rfl⟩, _, _, rfl, ⟨b1, rfl⟩, _, _, rfl, ⟨b2, rfl⟩, _, _, rfl, ⟨f, rfl, _⟩, _, _, rfl, ⟨b, rfl, _⟩, rfl⟩ := h
  exact ⟨⟨b0, b1, b2, f, b⟩, rfl⟩
theorem eq23 : eqOk Tryd.prog 40 23 [.bool, .bool, .bool, .int .i64, .int .i64] = true := by kernel_rfl
theorem res4 : Tryd.f4.resultTypes = #[4] := by kernel_rfl
theorem read4 : (Tryd.f4.params.toList.all fun t => Tryd.prog.readableRec t && decide (t < Tryd.prog.types.size)) = true := by kernel_rfl

set_option maxRecDepth 100000 in
theorem contract (H : Type) (enc : TypeId × Value → H) (W : World) (base : Nat) (args : Array Value) (ds gs : List (DataW H)) (before : List MemPlace)
    (hval : ∀ (j : Nat) t v, Tryd.f4.params[j]? = some t → args[j]? = some v → Value.okWide Tryd.prog W .any base t v)
    (hW : DataW.Whole enc Tryd.prog Tryd.f4.params.toList Rows.cellStylesSpec.vars false W args.toList ds gs before) (hL : laidMetH Tryd.prog Rows.cellStylesRow.laid W) :
    Calls Tryd.prog 4 args W fun e W' => ∃ v, e = .returned v ∧ Rows.cellStylesSpec.post enc Tryd.prog Tryd.f4 false true false false W args v W' := by
  have hW' := hW
  obtain ⟨p, q, hA, hV, rfl, hfz, hnd⟩ := hW
  rw [Tryd.params4] at hA hval
  obtain ⟨v0, vs0, d0, ds0, p0, q0, hargs, rfl, rfl, h0, r0⟩ := trodAll_cons hA
  obtain ⟨v1, vs1, d1, ds1, p1, q1, rfl, rfl, rfl, h1, r1⟩ := trodAll_cons r0
  obtain ⟨v2, vs2, d2, ds2, p2, q2, rfl, rfl, rfl, h2, r2⟩ := trodAll_cons r1
  obtain ⟨rfl, rfl, rfl⟩ := trodAll_nil r2
  obtain ⟨rfl, rfl⟩ := trodVars_none hV
  obtain rfl : args = #[v0, v1, v2] := by cases args; simp_all
  obtain ⟨xs0, s0, k0⟩ := arg_struct eq23 Tryd.underlying23 (hval 0 23 v0 rfl rfl) h0
  obtain ⟨xs1, s1, k1⟩ := arg_struct eq23 Tryd.underlying23 (hval 1 23 v1 rfl rfl) h1
  obtain ⟨n, rfl, _, _, _⟩ := open_int Tryd.underlying3 (hval 2 3 v2 rfl rfl) h2
  obtain ⟨s, es⟩ := stOf_shape s0
  obtain ⟨t, et⟩ := stOf_shape s1
  rw [es] at k0
  rw [et] at k1
  have hwide := table hL
  have hH : HRel (mpOf [wpl]) [.row wideRow .ro] W := hrel_of [wpl] _ fun b pl hb => by
    cases b with
    | zero =>
      simp at hb
      subst hb
      exact ⟨_, rfl, wide_brel hwide _, rfl⟩
    | succ b => simp at hb
  have := law_calls ok known5_ok (F := 4) (xs := [s.av, t.av, .int .i64 n]) (ws := [v0, v1, .int .i64 n]) hH (fun b x hb => by
    cases b with
    | zero => simp at hb; subst hb; rfl
    | succ b => simp at hb) (fun g hg => by
    obtain rfl := globT g hg
    exact ⟨18, rfl⟩) (by simp only [VRels]; exact ⟨_, _, rfl, k0 _ _, _, _, rfl, k1 _ _, _, _, rfl, by simp [VRel], rfl⟩) (styles_true s t n)
  refine this.mono fun e W' ⟨cv, he, ⟨ρ', hv⟩, hb⟩ => ?_
  simp only [VRel] at hv
  subst hv
  exact ⟨_, he, law_post laidOut read4 res4 Tryd.underlying4 rfl hW' rfl hb⟩
end Go.Abs.TA
