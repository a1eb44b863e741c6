/-
The closed run, as a contract of the fit of law26.
-/
import Derived.Test.YtnoplfndpemmpaaGreatDoorRunA
import Derived.Test.YtnoplfndpemmpaaGreatDoorRunB
import Derived.Test.YtnoplfndpemmpaaGreatDoorRunC
import Derived.Test.YtnoplfndpemmpaaGreatDoorRunD
import Derived.Test.YtnoplfndpemmpaaGreatDoorMRun
namespace Go.Abs.TE
open Go Go.Abs Go.Proofs
theorem ok2 : TabOK Tryz.prog T2 := tab_mask ok T2.mask T2.join
theorem of2 {f : FuncId} {xs : List AVal} {σ σ' : Heap} {v : AVal} (h : CallOK Tryz.prog T2 f xs σ v σ') : CallOK Tryz.prog T f xs σ v σ' := h
theorem to2 {f : FuncId} {xs : List AVal} {σ σ' : Heap} {v : AVal} (h : CallOK Tryz.prog T f xs σ v σ') : CallOK Tryz.prog T2 f xs σ v σ' := h
theorem fn2_66 : T2.fn 66 = some Tryz.f66 := by kernel_rfl
theorem fn2_67 : T2.fn 67 = some Tryz.f67 := by kernel_rfl
theorem fn2_118 : T2.fn 118 = some Tryz.f118 := by kernel_rfl
theorem fn2_95 : T2.fn 95 = some Tryz.f95 := by kernel_rfl
theorem fn2_47 : T2.fn 47 = some Tryz.f47 := by kernel_rfl
theorem fn2_35 : T2.fn 35 = some Tryz.f35 := by kernel_rfl
theorem fn2_24 : T2.fn 24 = some Tryz.f24 := by kernel_rfl
theorem sorted2 (R : Type) (xs : List AVal) (σ : Heap) (K : AVal → Heap → Option R) (r : R) (h : gSorted [107, 176] R xs σ K = some r) : ∃ v σ', K v σ' = some r ∧ CallOK Tryz.prog T2 66 xs σ v σ' :=
  gSorted_ok (gs := [107, 176]) Tryz.underlying3 (fun g hg => by
    rcases List.mem_cons.1 hg with rfl | hg
    · exact fun Bm b nn D0 R w h1 h2 h3 h4 h5 => Tryz.slices_Sorted_66_67 Bm b nn D0 R w h1 h2 h3 h4 h5
    · obtain rfl := List.mem_singleton.1 hg
      exact fun Bm b nn D0 R w h1 h2 h3 h4 h5 => Tryz.slices_Sorted_66_118 Bm b nn D0 R w h1 h2 h3 h4 h5) R xs σ K r h
theorem kn2 : KnownOK Tryz.prog T2 okn :=
  known_ok ok2 (known_ok ok2 (known_ok ok2 (known_ok ok2 (known_ok ok2 (known_ok ok2 (known_ok ok2 (known_ok ok2 (known_ok ok2 (known_ok ok2 (known0_ok) fn2_66 (by kernel_rfl) sorted2) fn2_67 (by kernel_rfl) (gKeys_ok Tryz.maps_Keys_67)) fn2_118 (by kernel_rfl) (gKeys_ok Tryz.maps_Keys_118))
    fn_file_Store_Used (by kernel_rfl) (g1_ok fun x σ v σ' h => to2 (ok_cUsed x σ v σ' h))) fn_grid_blank (by kernel_rfl) (g2_ok fun x y σ v σ' h => to2 (ok_cBlank x y σ v σ' h)))
    fn_crc_Sum (by kernel_rfl) (g1_ok fun x σ v σ' h => to2 (ok_cSum x σ v σ' h))) fn_vary_Put (by kernel_rfl) (g2_ok fun x y σ v σ' h => to2 (ok_cPut x y σ v σ' h))) fn_state_flags (by kernel_rfl) (g1_ok fun x σ v σ' h => to2 (ok_cFlags x σ v σ' h)))
    fn2_95 (by kernel_rfl) gCheck_ok) fn_grid_Grid_Text (by kernel_rfl) (g2_ok fun x y σ v σ' h => to2 (ok_cText x y σ v σ' h))
theorem knr : KnownOK Tryz.prog T2 okr := known_ok ok2 kn2 fn2_47 (by kernel_rfl) (gLit_ok (call_ok ok2 kn2 (isRun_eq stageA)))
theorem take13 {σ : Heap} (h : sameH (σ.take 13) heap0 = true) : heap0 <+: σ := by
  rw [← sameH_eq h]
  exact List.take_prefix 13 σ
theorem callC35 : CallOK Tryz.prog T2 35 [.int .i64 0, .slice none 0 0 0] heap0 (.str ⟨strR.toArray⟩) heap0 := by
  have h := stageC
  unfold seeS at h
  split at h
  · rename_i s σ1 e
    injection h with h
    injection h with h1 h2
    have hs : s = ⟨strR.toArray⟩ := by
      have h3 := congrArg List.toArray h1
      rw [Array.toArray_toList] at h3
      rw [← h3]
    rw [hs] at e
    exact call_gc0 (call_ok ok2 knr e) (fun b hb => get_pre (take13 h2) hb) trivial
  · cases h
theorem callB24 : CallOK Tryz.prog T2 24 [.int .i64 0] heap0 (.ptr (some (13, 0))) (heap0 ++ [.row [] .dead]) := by
  have h := stageB
  unfold seeP at h
  split at h
  · rename_i p σ1 e
    injection h with h
    injection h with h1 h2
    subst h1
    have hp := take13 h2
    have h0 : heap0.length = 13 := rfl
    refine call_gc (call_ok ok2 knr e) (fun b => if b < 13 then b else 41) (by simp) (fun b hb => by rw [h0] at hb; simp [hb]) (fun b b' hb hb' e => ?_) (fun b x hx hl => ?_) (fun b x hx hro => ?_) (fun b x hx hro => ?_) (by simp [AVal.ren]) (by simp [AVal.refs, h0]) (fun j x hx ht => ?_)
    · simp only [List.length_append, h0, List.length_singleton] at hb hb'
      by_cases k1 : b < 13 <;> by_cases k2 : b' < 13 <;> simp only [k1, k2, if_true, if_false] at e <;> omega
    · rcases Nat.lt_or_ge b 13 with hb | hb
      · rw [List.getElem?_append_left (by rw [h0]; exact hb)] at hx
        exact .inr ⟨hx, (get_pre hp (by rw [h0]; exact hb)).trans hx⟩
      · rw [List.getElem?_append_right (by rw [h0]; exact hb)] at hx
        cases hk : b - heap0.length with
        | zero => rw [hk] at hx; simp at hx; subst hx; cases hl
        | succ n => rw [hk] at hx; simp at hx
    · rw [List.getElem?_append_left (List.getElem?_eq_some_iff.1 hx).1]; exact hx
    · rcases Nat.lt_or_ge b 13 with hb | hb
      · rw [List.getElem?_append_left (by rw [h0]; exact hb)] at hx; exact hx
      · rw [List.getElem?_append_right (by rw [h0]; exact hb)] at hx
        cases hk : b - heap0.length with
        | zero => rw [hk] at hx; simp at hx; subst hx; cases hro
        | succ n => rw [hk] at hx; simp at hx
    · rcases Nat.lt_or_ge j 13 with hb | hb
      · rw [List.getElem?_append_left (by rw [h0]; exact hb)] at hx; exact hx
      · rw [List.getElem?_append_right (by rw [h0]; exact hb)] at hx
        cases hk : j - heap0.length with
        | zero => rw [hk] at hx; simp at hx; subst hx; cases ht
        | succ n => rw [hk] at hx; simp at hx
  · cases h
theorem knf : KnownOK Tryz.prog T2 okf := known_ok ok2 (known_ok ok2 kn2 fn2_35 (by kernel_rfl) (gLit_ok callC35)) fn2_24 (by kernel_rfl) (gLit_ok callB24)
theorem fit26_heap0 : ∃ σ1, CallOK Tryz.prog T 14 [] heap0 (.bool true) σ1 := by
  have h := stageD
  unfold obs at h
  split at h
  · rename_i b σ1 e
    injection h with h
    subst h
    exact ⟨σ1, of2 (call_ok ok2 knf e)⟩
  · cases h
end Go.Abs.TE
