/-
The closed run, as a contract of the law's fit.
-/
import Derived.Test.YtnoplfndpemmpaaGreatDoorRun2
import Derived.Test.YtnoplfndpemmpaaGreatDoorRun3
import Derived.Test.YtnoplfndpemmpaaGreatDoorMRun
namespace Go.Abs.TE
open Go Go.Abs Go.Proofs
theorem ok2 : TabOK Tryz.prog T2 := tab_mask ok T2.mask T2.join
theorem of2 {f : FuncId} {xs : List AVal} {σ σ' : Heap} {v : AVal} (h : CallOK Tryz.prog T2 f xs σ v σ') : CallOK Tryz.prog T f xs σ v σ' := h
theorem to2 {f : FuncId} {xs : List AVal} {σ σ' : Heap} {v : AVal} (h : CallOK Tryz.prog T f xs σ v σ') : CallOK Tryz.prog T2 f xs σ v σ' := h
theorem fn2_66 : T2.fn 66 = some Tryz.f66 := by kernel_rfl
theorem fn2_67 : T2.fn 67 = some Tryz.f67 := by kernel_rfl
theorem fn2_47 : T2.fn 47 = some Tryz.f47 := by kernel_rfl
theorem sorted2 (R : Type) (xs : List AVal) (σ : Heap) (K : AVal → Heap → Option R) (r : R) (h : gSorted [107] R xs σ K = some r) : ∃ v σ', K v σ' = some r ∧ CallOK Tryz.prog T2 66 xs σ v σ' :=
  gSorted_ok (gs := [107]) Tryz.underlying3 (fun g hg => by
    obtain rfl := List.mem_singleton.1 hg
    exact fun Bm b nn D0 R w h1 h2 h3 h4 h5 => Tryz.slices_Sorted_66_67 Bm b nn D0 R w h1 h2 h3 h4 h5) R xs σ K r h
theorem kn2 : KnownOK Tryz.prog T2 okn :=
  known_ok ok2 (known_ok ok2 (known_ok ok2 (known_ok ok2 (known_ok ok2 (known_ok ok2 (known_ok ok2 (known0_ok) fn2_66 (by kernel_rfl) sorted2) fn2_67 (by kernel_rfl) (gKeys_ok Tryz.maps_Keys_67))
    fn_file_Store_Used (by kernel_rfl) (g1_ok fun x σ v σ' h => to2 (ok_cUsed x σ v σ' h))) fn_grid_blank (by kernel_rfl) (g2_ok fun x y σ v σ' h => to2 (ok_cBlank x y σ v σ' h)))
    fn_crc_Sum (by kernel_rfl) (g1_ok fun x σ v σ' h => to2 (ok_cSum x σ v σ' h))) fn_vary_Put (by kernel_rfl) (g2_ok fun x y σ v σ' h => to2 (ok_cPut x y σ v σ' h))) fn_state_flags (by kernel_rfl) (g1_ok fun x σ v σ' h => to2 (ok_cFlags x σ v σ' h))
theorem kn3 : KnownOK Tryz.prog T2 okn2 := known_ok ok2 kn2 fn2_47 (by kernel_rfl) (gLit_ok (call_ok ok2 kn2 (isRun_eq stage1)))
theorem fit_heap0 : ∃ σ1, CallOK Tryz.prog T 7 [] heap0 (.bool true) σ1 := by
  have h := stage2
  unfold obs at h
  split at h
  · rename_i b σ1 e
    injection h with h
    subst h
    exact ⟨σ1, of2 (call_ok ok2 kn3 e)⟩
  · cases h
end Go.Abs.TE
