/-
ShelfSweeps returns true at every input, and leaves what was there as it was: the given statement.
  Conditions: none.
-/
import Derived.Test.YtjfdgccoblanlaaLawSS
import Derived.Test.YtjfdgccoblanlaaConTopC
namespace Go.Abs.TC.ShelfSweeps
open Go Go.Abs Go.Proofs Go.Proofs.Ytjfdgccoblanlaa Go.ChangeShapes Go.WideShapes Go.ChangeAt Go.RowKit Go.Abs.TC
theorem res : Try.f11.resultTypes = #[4] := by kernel_rfl
theorem read : (Try.f11.params.toList.all fun t => Try.prog.readableRec t && decide (t < Try.prog.types.size)) = true := by kernel_rfl
set_option maxRecDepth 100000 in
theorem contract (H : Type) (enc : TypeId × Value → H) (W : World) (base : Nat) (args : Array Value) (ds gs : List (DataW H)) (before : List MemPlace)
    (hval : ∀ (j : Nat) t v, Try.f11.params[j]? = some t → args[j]? = some v → Value.okWide Try.prog W .any base t v)
    (hW : DataW.Whole enc Try.prog Try.f11.params.toList Rows.shelfSweepsSpec.vars false W args.toList ds gs before) (hsh : W.ShapedOpen Try.prog) :
    Calls Try.prog 11 args W fun e W' => ∃ v, e = .returned v ∧ Rows.shelfSweepsSpec.post enc Try.prog Try.f11 false true false false W args v W' := by
  have hW' := hW
  obtain ⟨p, q, hA, hV, rfl, hfz, hnd⟩ := hW
  rw [Try.params11] at hA hval
  obtain ⟨v0, vs0, d0, ds0, p0, q0, hargs, rfl, rfl, o0, r0⟩ := trodAll_cons hA
  obtain ⟨rfl, rfl, rfl⟩ := trodAll_nil r0
  obtain ⟨rfl, rfl⟩ := trodVars_none hV
  obtain rfl : args = #[v0] := by cases args; simp_all
  obtain ⟨g, hg⟩ := world0 hsh
  obtain ⟨pl0, xs0, nl0, n0, g0, c0, z0⟩ := calls_open (hval 0 22 v0 rfl rfl) o0 hg
  have hC : Chunk W 0 (([] : List Pl) ++ (plsC pl0 xs0)) (([] : Heap) ++ (blkC (0 + ([] : List Pl).length) xs0)) := ((Chunk.nil (W := W) (k := 0)).append (c0 _))
  have t0 : ∀ (i : Nat) x, (blkC (0 + ([] : List Pl).length) xs0)[i]? = some x → (([] : Heap) ++ (blkC (0 + ([] : List Pl).length) xs0))[(0 + ([] : List Pl).length) + i]? = some x := fun i x hx => Chunk.right (Chunk.nil (W := W) (k := 0)) hx
  have y0 : (([] : List Pl) ++ (plsC pl0 xs0))[(0 + ([] : List Pl).length)]? = some pl0 := pls_right (i := 0) rfl
  have h0 := callsArg_of n0 g0 t0
  have hH := hC.hrel
  obtain ⟨σ1, hc⟩ := law_ShelfSweeps h0
  have := law_calls (P := Try.prog) (F := 11) (xs := [.slice (slAt nl0 (0 + ([] : List Pl).length) xs0.length).b (slAt nl0 (0 + ([] : List Pl).length) xs0.length).o (slAt nl0 (0 + ([] : List Pl).length) xs0.length).n 5]) (ws := [v0]) hH hC.rw (glob_grel _) (by
    simp only [VRels]
    exact ⟨_, _, rfl, z0 _ _ _ y0, rfl⟩) hc
  refine this.mono fun e W' ⟨cv, he, ⟨ρ', hv⟩, hb⟩ => ?_
  have hv' : cv = .bool true := by simpa [VRel] using hv
  subst hv'
  exact ⟨_, he, law_post laidOut read res Try.underlying4 rfl hW' rfl hb⟩
def zargs : Array Value := #[.slice none 0 0]
noncomputable def zWorld (os : Os) : World := World.holding Try.prog os ⟨#[], #[], []⟩
theorem laid_met (os : Os) : laidMet Try.prog Rows.shelfSweepsRow.laid ((zWorld os).forCall (fun _ _ => 0) ⟨#[], zargs, []⟩).memory :=
  laidMet_of_run' 8 (by kernel_rfl) (by kernel_rfl)
theorem reads (os : Os) {H : Type} (enc : TypeId × Value → H) : ∃ places, DataW.whole enc Try.prog ((zWorld os).forCall (fun _ _ => 0) ⟨#[], zargs, []⟩).memory Try.f11.params.toList Rows.shelfSweepsSpec.vars false zargs.toList 8 = some ([.nil], [], places) :=
  ⟨[], by kernel_rfl⟩
set_option maxRecDepth 100000 in
theorem lifted (os : Os) (started : os.Started) (H : Type) (enc : TypeId × Value → H) (F : Stop.Interp) :
    ReturnsInHanded {} Try.checked os 11 .any ((OpenSpec.ofChange Rows.shelfSweepsSpec).preRow enc Try.prog Try.f11 Rows.shelfSweepsRow.domain false Rows.shelfSweepsRow.laid) (((OpenSpec.ofChange Rows.shelfSweepsSpec).at F).post enc Try.prog Try.f11 false true false false) := by
  obtain ⟨places, hx⟩ := reads os enc
  refine returnsInHanded_of_row (C := Try.checked) (s := OpenSpec.ofChange Rows.shelfSweepsSpec) own started (by kernel_rfl) Try.func11
    (witness_row_at (enc := enc) (C := Try.checked) false (zWorld os) zargs rfl (by kernel_rfl) (by kernel_rfl) (by kernel_rfl)
      (OpenSpec.preRow_of_cond 8 hx (by kernel_rfl) (fun k hk => by cases hk) (by kernel_rfl) (laid_met os))) ?_
  intro W base args ds gs before hval hW _ _ _ hL hsh _
  exact contract H enc W base args ds gs before hval hW hsh
theorem said : Rows.ShelfSweepsSaid :=
  OpenClaim.holds_of_cond 11 Try.f11 rfl rfl rfl rfl rfl rfl rfl ⟨rfl, rfl, rfl, rfl, rfl⟩ rfl rfl rfl rfl rfl (by kernel_rfl) Try.func11 (by kernel_rfl)
    (of_decide_eq_true (by kernel_rfl)) (by unfold Func.isWrapper; first | (rw [if_pos (by decide +kernel)]; kernel_rfl) | (rw [if_neg (by decide +kernel)]; exact ⟨rfl, rfl⟩))
    (fun os started H enc _ F => by rw [OpenClaim.pre_eq_preRow]; exact lifted os started H enc F)
end Go.Abs.TC.ShelfSweeps
namespace Go.Proofs.Ytjfdgccoblanlaa
theorem shelfSweeps_holds : Rows.ShelfSweepsSaid := Go.Abs.TC.ShelfSweeps.said
end Go.Proofs.Ytjfdgccoblanlaa
