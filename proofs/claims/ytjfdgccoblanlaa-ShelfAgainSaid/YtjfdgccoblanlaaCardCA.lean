/-
ShelfAgain returns true at every input, and leaves what was there as it was: the given statement.
  Conditions: none.
-/
import Derived.Test.YtjfdgccoblanlaaLawSA
import Derived.Test.YtjfdgccoblanlaaConTopC
import Derived.Test.YtjfdgccoblanlaaConTopG
namespace Go.Abs.TC.ShelfAgain
open Go Go.Abs Go.Proofs Go.Proofs.Ytjfdgccoblanlaa Go.ChangeShapes Go.WideShapes Go.ChangeAt Go.RowKit Go.Abs.TC
theorem res : Try.f8.resultTypes = #[4] := by kernel_rfl
theorem read : (Try.f8.params.toList.all fun t => Try.prog.readableRec t && decide (t < Try.prog.types.size)) = true := by kernel_rfl
set_option maxRecDepth 100000 in
theorem contract (H : Type) (enc : TypeId × Value → H) (W : World) (base : Nat) (args : Array Value) (ds gs : List (DataW H)) (before : List MemPlace)
    (hval : ∀ (j : Nat) t v, Try.f8.params[j]? = some t → args[j]? = some v → Value.okWide Try.prog W .any base t v)
    (hW : DataW.Whole enc Try.prog Try.f8.params.toList Rows.shelfAgainSpec.vars false W args.toList ds gs before) (hsh : W.ShapedOpen Try.prog) :
    Calls Try.prog 8 args W fun e W' => ∃ v, e = .returned v ∧ Rows.shelfAgainSpec.post enc Try.prog Try.f8 false true false false W args v W' := by
  have hW' := hW
  obtain ⟨p, q, hA, hV, rfl, hfz, hnd⟩ := hW
  rw [Try.params8] at hA hval
  obtain ⟨v0, vs0, d0, ds0, p0, q0, hargs, rfl, rfl, o0, r0⟩ := trodAll_cons hA
  obtain ⟨v1, vs1, d1, ds1, p1, q1, rfl, rfl, rfl, o1, r1⟩ := trodAll_cons r0
  obtain ⟨rfl, rfl, rfl⟩ := trodAll_nil r1
  obtain ⟨rfl, rfl⟩ := trodVars_none hV
  obtain rfl : args = #[v0, v1] := by cases args; simp_all
  obtain ⟨g, hg⟩ := world0 hsh
  obtain ⟨pl0, xs0, nl0, n0, g0, c0, z0⟩ := bytess_open (hval 0 53 v0 rfl rfl) o0 hg
  obtain ⟨pl1, xs1, nl1, n1, c1, z1⟩ := ints_open (E := eI64) (ik := .i64) (fun n => n) (fun _ _ => rfl) Try.underlying49 Try.underlying3 cells3 (hval 1 49 v1 rfl rfl) o1 hg
  have hC : Chunk W 0 ((([] : List Pl) ++ (plsB pl0 xs0)) ++ [pl1]) ((([] : Heap) ++ (blkB (0 + ([] : List Pl).length) xs0)) ++ [Blk.row (eI64.all xs1) .ro]) := ((((Chunk.nil (W := W) (k := 0)).append (c0 _))).append (c1 _))
  have t0 : ∀ (i : Nat) x, (blkB (0 + ([] : List Pl).length) xs0)[i]? = some x → ((([] : Heap) ++ (blkB (0 + ([] : List Pl).length) xs0)) ++ [Blk.row (eI64.all xs1) .ro])[(0 + ([] : List Pl).length) + i]? = some x := fun i x hx => at_left (Chunk.right (Chunk.nil (W := W) (k := 0)) hx)
  have y0 : ((([] : List Pl) ++ (plsB pl0 xs0)) ++ [pl1])[(0 + ([] : List Pl).length)]? = some pl0 := at_left (pls_right (i := 0) rfl)
  have h0 := bytesArg_of n0 g0 t0
  have t1 : ∀ (i : Nat) x, [Blk.row (eI64.all xs1) .ro][i]? = some x → ((([] : Heap) ++ (blkB (0 + ([] : List Pl).length) xs0)) ++ [Blk.row (eI64.all xs1) .ro])[(0 + (([] : List Pl) ++ (plsB pl0 xs0)).length) + i]? = some x := fun i x hx => Chunk.right (((Chunk.nil (W := W) (k := 0)).append (c0 _))) hx
  have y1 : ((([] : List Pl) ++ (plsB pl0 xs0)) ++ [pl1])[(0 + (([] : List Pl) ++ (plsB pl0 xs0)).length)]? = some pl1 := pls_right (i := 0) rfl
  have h1 := slArg_of n1 (t1 0 _ rfl)
  have hH := hC.hrel
  obtain ⟨σ1, hc⟩ := law_ShelfAgain h0 h1
  have := law_calls (P := Try.prog) (F := 8) (xs := [.slice (slAt nl0 (0 + ([] : List Pl).length) xs0.length).b (slAt nl0 (0 + ([] : List Pl).length) xs0.length).o (slAt nl0 (0 + ([] : List Pl).length) xs0.length).n 1, .slice (slAt nl1 (0 + (([] : List Pl) ++ (plsB pl0 xs0)).length) xs1.length).b (slAt nl1 (0 + (([] : List Pl) ++ (plsB pl0 xs0)).length) xs1.length).o (slAt nl1 (0 + (([] : List Pl) ++ (plsB pl0 xs0)).length) xs1.length).n 1]) (ws := [v0, v1]) hH hC.rw (glob_grel _) (by
    simp only [VRels]
    exact ⟨_, _, rfl, z0 _ _ _ y0, ⟨_, _, rfl, z1 _ _ _ y1, rfl⟩⟩) hc
  refine this.mono fun e W' ⟨cv, he, ⟨ρ', hv⟩, hb⟩ => ?_
  have hv' : cv = .bool true := by simpa [VRel] using hv
  subst hv'
  exact ⟨_, he, law_post laidOut read res Try.underlying4 rfl hW' rfl hb⟩
def zargs : Array Value := #[.slice none 0 0, .slice none 0 0]
noncomputable def zWorld (os : Os) : World := World.holding Try.prog os ⟨#[], #[], []⟩
theorem laid_met (os : Os) : laidMet Try.prog Rows.shelfAgainRow.laid ((zWorld os).forCall (fun _ _ => 0) ⟨#[], zargs, []⟩).memory :=
  laidMet_of_run' 8 (by kernel_rfl) (by kernel_rfl)
theorem reads (os : Os) {H : Type} (enc : TypeId × Value → H) : ∃ places, DataW.whole enc Try.prog ((zWorld os).forCall (fun _ _ => 0) ⟨#[], zargs, []⟩).memory Try.f8.params.toList Rows.shelfAgainSpec.vars false zargs.toList 8 = some ([.nil, .nil], [], places) :=
  ⟨[], by kernel_rfl⟩
set_option maxRecDepth 100000 in
theorem lifted (os : Os) (started : os.Started) (H : Type) (enc : TypeId × Value → H) (F : Stop.Interp) :
    ReturnsInHanded {} Try.checked os 8 .any ((OpenSpec.ofChange Rows.shelfAgainSpec).preRow enc Try.prog Try.f8 Rows.shelfAgainRow.domain false Rows.shelfAgainRow.laid) (((OpenSpec.ofChange Rows.shelfAgainSpec).at F).post enc Try.prog Try.f8 false true false false) := by
  obtain ⟨places, hx⟩ := reads os enc
  refine returnsInHanded_of_row (C := Try.checked) (s := OpenSpec.ofChange Rows.shelfAgainSpec) own started (by kernel_rfl) Try.func8
    (witness_row_at (enc := enc) (C := Try.checked) false (zWorld os) zargs rfl (by kernel_rfl) (by kernel_rfl) (by kernel_rfl)
      (OpenSpec.preRow_of_cond 8 hx (by kernel_rfl) (fun k hk => by cases hk) (by kernel_rfl) (laid_met os))) ?_
  intro W base args ds gs before hval hW _ _ _ hL hsh _
  exact contract H enc W base args ds gs before hval hW hsh
theorem said : Rows.ShelfAgainSaid :=
  OpenClaim.holds_of_cond 8 Try.f8 rfl rfl rfl rfl rfl rfl rfl ⟨rfl, rfl, rfl, rfl, rfl⟩ rfl rfl rfl rfl rfl (by kernel_rfl) Try.func8 (by kernel_rfl)
    (of_decide_eq_true (by kernel_rfl)) (by unfold Func.isWrapper; first | (rw [if_pos (by decide +kernel)]; kernel_rfl) | (rw [if_neg (by decide +kernel)]; exact ⟨rfl, rfl⟩))
    (fun os started H enc _ F => by rw [OpenClaim.pre_eq_preRow]; exact lifted os started H enc F)
end Go.Abs.TC.ShelfAgain
namespace Go.Proofs.Ytjfdgccoblanlaa
theorem shelfAgain_holds : Rows.ShelfAgainSaid := Go.Abs.TC.ShelfAgain.said
end Go.Proofs.Ytjfdgccoblanlaa
