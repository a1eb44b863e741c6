/-
ShelfRuns returns true at every input, and leaves what was there as it was: the given statement.
  Conditions: none.
-/
import Derived.Test.YtjfdgccoblanlaaLawSR
import Derived.Test.YtjfdgccoblanlaaConTopC
namespace Go.Abs.TC.ShelfRuns
open Go Go.Abs Go.Proofs Go.Proofs.Ytjfdgccoblanlaa Go.ChangeShapes Go.WideShapes Go.ChangeAt Go.RowKit Go.Abs.TC
theorem res : Try.f9.resultTypes = #[4] := by kernel_rfl
theorem read : (Try.f9.params.toList.all fun t => Try.prog.readableRec t && decide (t < Try.prog.types.size)) = true := by kernel_rfl
set_option maxRecDepth 100000 in
theorem contract (H : Type) (enc : TypeId × Value → H) (W : World) (base : Nat) (args : Array Value) (ds gs : List (DataW H)) (before : List MemPlace)
    (hval : ∀ (j : Nat) t v, Try.f9.params[j]? = some t → args[j]? = some v → Value.okWide Try.prog W .any base t v)
    (hW : DataW.Whole enc Try.prog Try.f9.params.toList Rows.shelfRunsSpec.vars false W args.toList ds gs before) (hsh : W.ShapedOpen Try.prog) :
    Calls Try.prog 9 args W fun e W' => ∃ v, e = .returned v ∧ Rows.shelfRunsSpec.post enc Try.prog Try.f9 false true false false W args v W' := by
  have hW' := hW
  obtain ⟨p, q, hA, hV, rfl, hfz, hnd⟩ := hW
  rw [Try.params9] at hA hval
  obtain ⟨v0, vs0, d0, ds0, p0, q0, hargs, rfl, rfl, o0, r0⟩ := trodAll_cons hA
  obtain ⟨v1, vs1, d1, ds1, p1, q1, rfl, rfl, rfl, o1, r1⟩ := trodAll_cons r0
  obtain ⟨v2, vs2, d2, ds2, p2, q2, rfl, rfl, rfl, o2, r2⟩ := trodAll_cons r1
  obtain ⟨rfl, rfl, rfl⟩ := trodAll_nil r2
  obtain ⟨rfl, rfl⟩ := trodVars_none hV
  obtain rfl : args = #[v0, v1, v2] := by cases args; simp_all
  obtain ⟨g, hg⟩ := world0 hsh
  obtain ⟨pl0, xs0, nl0, n0, g0, c0, z0⟩ := calls_open (hval 0 22 v0 rfl rfl) o0 hg
  obtain ⟨a1, rfl, _, _, wf1⟩ := open_str Try.underlying9 (hval 1 9 v1 rfl rfl) o1
  obtain ⟨pl2, xs2, nl2, n2, c2, z2⟩ := ints_open (E := eU8) (ik := .u8) (fun n => UInt8.ofNat n.toNat) u8_mk Try.underlying23 Try.underlying5 cells5 (hval 2 23 v2 rfl rfl) o2 hg
  have hC : Chunk W 0 ((([] : List Pl) ++ (plsC pl0 xs0)) ++ [pl2]) ((([] : Heap) ++ (blkC (0 + ([] : List Pl).length) xs0)) ++ [Blk.row (eU8.all xs2) .ro]) := ((((Chunk.nil (W := W) (k := 0)).append (c0 _))).append (c2 _))
  have t0 : ∀ (i : Nat) x, (blkC (0 + ([] : List Pl).length) xs0)[i]? = some x → ((([] : Heap) ++ (blkC (0 + ([] : List Pl).length) xs0)) ++ [Blk.row (eU8.all xs2) .ro])[(0 + ([] : List Pl).length) + i]? = some x := fun i x hx => at_left (Chunk.right (Chunk.nil (W := W) (k := 0)) hx)
  have y0 : ((([] : List Pl) ++ (plsC pl0 xs0)) ++ [pl2])[(0 + ([] : List Pl).length)]? = some pl0 := at_left (pls_right (i := 0) rfl)
  have h0 := callsArg_of n0 g0 t0
  have t2 : ∀ (i : Nat) x, [Blk.row (eU8.all xs2) .ro][i]? = some x → ((([] : Heap) ++ (blkC (0 + ([] : List Pl).length) xs0)) ++ [Blk.row (eU8.all xs2) .ro])[(0 + (([] : List Pl) ++ (plsC pl0 xs0)).length) + i]? = some x := fun i x hx => Chunk.right (((Chunk.nil (W := W) (k := 0)).append (c0 _))) hx
  have y2 : ((([] : List Pl) ++ (plsC pl0 xs0)) ++ [pl2])[(0 + (([] : List Pl) ++ (plsC pl0 xs0)).length)]? = some pl2 := pls_right (i := 0) rfl
  have h2 := slArg_of n2 (t2 0 _ rfl)
  have hH := hC.hrel
  obtain ⟨σ1, hc⟩ := law_ShelfRuns (nm := a1) h0 h2
  have := law_calls (P := Try.prog) (F := 9) (xs := [.slice (slAt nl0 (0 + ([] : List Pl).length) xs0.length).b (slAt nl0 (0 + ([] : List Pl).length) xs0.length).o (slAt nl0 (0 + ([] : List Pl).length) xs0.length).n 5, tStr.av a1, .slice (slAt nl2 (0 + (([] : List Pl) ++ (plsC pl0 xs0)).length) xs2.length).b (slAt nl2 (0 + (([] : List Pl) ++ (plsC pl0 xs0)).length) xs2.length).o (slAt nl2 (0 + (([] : List Pl) ++ (plsC pl0 xs0)).length) xs2.length).n 1]) (ws := [v0, .string a1, v2]) hH hC.rw (glob_grel _) (by
    simp only [VRels]
    exact ⟨_, _, rfl, z0 _ _ _ y0, ⟨_, _, rfl, (by simp [tStr, VRel]), ⟨_, _, rfl, z2 _ _ _ y2, rfl⟩⟩⟩) hc
  refine this.mono fun e W' ⟨cv, he, ⟨ρ', hv⟩, hb⟩ => ?_
  have hv' : cv = .bool true := by simpa [VRel] using hv
  subst hv'
  exact ⟨_, he, law_post laidOut read res Try.underlying4 rfl hW' rfl hb⟩
def zargs : Array Value := #[.slice none 0 0, .string ⟨#[]⟩, .slice none 0 0]
noncomputable def zWorld (os : Os) : World := World.holding Try.prog os ⟨#[], #[], []⟩
theorem laid_met (os : Os) : laidMet Try.prog Rows.shelfRunsRow.laid ((zWorld os).forCall (fun _ _ => 0) ⟨#[], zargs, []⟩).memory :=
  laidMet_of_run' 8 (by kernel_rfl) (by kernel_rfl)
theorem reads (os : Os) {H : Type} (enc : TypeId × Value → H) : ∃ places, DataW.whole enc Try.prog ((zWorld os).forCall (fun _ _ => 0) ⟨#[], zargs, []⟩).memory Try.f9.params.toList Rows.shelfRunsSpec.vars false zargs.toList 8 = some ([.nil, .lit (.string []), .nil], [], places) :=
  ⟨[], by kernel_rfl⟩
set_option maxRecDepth 100000 in
theorem lifted (os : Os) (started : os.Started) (H : Type) (enc : TypeId × Value → H) (F : Stop.Interp) :
    ReturnsInHanded {} Try.checked os 9 .any ((OpenSpec.ofChange Rows.shelfRunsSpec).preRow enc Try.prog Try.f9 Rows.shelfRunsRow.domain false Rows.shelfRunsRow.laid) (((OpenSpec.ofChange Rows.shelfRunsSpec).at F).post enc Try.prog Try.f9 false true false false) := by
  obtain ⟨places, hx⟩ := reads os enc
  refine returnsInHanded_of_row (C := Try.checked) (s := OpenSpec.ofChange Rows.shelfRunsSpec) own started (by kernel_rfl) Try.func9
    (witness_row_at (enc := enc) (C := Try.checked) false (zWorld os) zargs rfl (by kernel_rfl) (by kernel_rfl) (by kernel_rfl)
      (OpenSpec.preRow_of_cond 8 hx (by kernel_rfl) (fun k hk => by cases hk) (by kernel_rfl) (laid_met os))) ?_
  intro W base args ds gs before hval hW _ _ _ hL hsh _
  exact contract H enc W base args ds gs before hval hW hsh
theorem said : Rows.ShelfRunsSaid :=
  OpenClaim.holds_of_cond 9 Try.f9 rfl rfl rfl rfl rfl rfl rfl ⟨rfl, rfl, rfl, rfl, rfl⟩ rfl rfl rfl rfl rfl (by kernel_rfl) Try.func9 (by kernel_rfl)
    (of_decide_eq_true (by kernel_rfl)) (by unfold Func.isWrapper; first | (rw [if_pos (by decide +kernel)]; kernel_rfl) | (rw [if_neg (by decide +kernel)]; exact ⟨rfl, rfl⟩))
    (fun os started H enc _ F => by rw [OpenClaim.pre_eq_preRow]; exact lifted os started H enc F)
end Go.Abs.TC.ShelfRuns
namespace Go.Proofs.Ytjfdgccoblanlaa
theorem shelfRuns_holds : Rows.ShelfRunsSaid := Go.Abs.TC.ShelfRuns.said
end Go.Proofs.Ytjfdgccoblanlaa
