/-
strings.Builder: copyCheck, at the world.
strings.Builder: copyCheck.
-/
import Derived.Test.YtnoplfndpemmpaaGreatDoorMConY
import Derived.Lib.Builder
import Derived.WalkKit
namespace Go.Abs.TE
open Go Go.Abs Go.Proofs Go.RowKit

theorem sizeB : ∃ j, Tryz.prog.info? 137 = some j ∧ j.size ≠ 0 := by
  have h : (Tryz.prog.info? 137).map (·.size) = some 2 := by kernel_rfl
  obtain ⟨j, hj, e⟩ := Option.map_eq_some_iff.1 h
  exact ⟨j, hj, by rw [e]; decide⟩
theorem liesB : liesAt Tryz.prog Tryz.prog.depth 137 (2 / Tryz.prog.cellsOf 137) 0 137 1 = true := by kernel_rfl
set_option maxHeartbeats 1000000 in
set_option maxRecDepth 100000 in
theorem check_used (b : Nat) (w : World) (h0 : w.cell? ⟨b, 0, none⟩ = some (.pointer (some ⟨b, 0, none⟩))) :
    Calls Tryz.prog 95 #[.pointer (some ⟨b, 0, none⟩)] w fun e w' => e = .returned (.tuple #[]) ∧ w' = w := by
  obtain ⟨j, hj, _⟩ := sizeB
  go_enter Tryz.func95, Tryz.ntmps95
  go_wp2
  rw [Lib.run_neq_ptr_same w _ Tryz.underlying135 hj]
  go_wp2
  go_end0
  exact ⟨rfl, rfl⟩
set_option maxHeartbeats 1000000 in
set_option maxRecDepth 100000 in
theorem check_fresh (b : Nat) (w : World) (h0 : w.cell? ⟨b, 0, none⟩ = some (.pointer none)) (hsh : w.shape? b = some (137, 2)) (hfz : w.frozen? ⟨b, 0, none⟩ = false) :
    Calls Tryz.prog 95 #[.pointer (some ⟨b, 0, none⟩)] w fun e w' => e = .returned (.tuple #[]) ∧ w' = w.setCell ⟨b, 0, none⟩ (.pointer (some ⟨b, 0, none⟩)) := by
  obtain ⟨j, hj, hjs⟩ := sizeB
  go_enter Tryz.func95, Tryz.ntmps95
  go_wp2
  rw [Lib.run_to_unsafe w ⟨b, 0, none⟩ Tryz.underlying135 Tryz.underlying237 hj hjs hsh (Nat.zero_lt_succ 1)]
  simp only [Result.andThen]
  rw [Oper.upon_value]
  go_wp2
  rw [run_callFunc_extern Tryz.func136 (by kernel_rfl) (by kernel_rfl) (by kernel_rfl) (e := Extern.AbiNoEscape.same) (by kernel_rfl)]
  rw [Lib.run_noEscape]
  simp only [Result.andThen]
  rw [Oper.upon_value]
  go_wp2
  rw [Lib.run_from_unsafe w ⟨b, 0, none⟩ Tryz.underlying237 Tryz.underlying135 hj hsh liesB]
  simp only [Result.andThen]
  rw [Oper.upon_value]
  go_wp2
  go_end0
  exact ⟨rfl, rfl⟩
end Go.Abs.TE
namespace Go.Abs.TE
open Go Go.Abs Go.Proofs
/-! ### Types that are told -/
theorem typed_mono {σ σ' : Heap} {b t sz : Nat} (h : σ.typed b t sz = true) (hs : ∀ x ∈ σ, x.isTys = true → x ∈ σ') : σ'.typed b t sz = true := by
  unfold Heap.typed at h ⊢
  rw [List.any_eq_true] at h ⊢
  obtain ⟨x, hx, h⟩ := h
  refine ⟨x, hs x hx ?_, h⟩
  cases x with
  | tys b t sz => rfl
  | row cs m => cases h
  | map es m => cases h
theorem typed_pre {σ σ' : Heap} {b t sz : Nat} (h : σ.typed b t sz = true) (hp : σ <+: σ') : σ'.typed b t sz = true := typed_mono h fun _ hx _ => hp.subset hx
theorem typed_new {σ : Heap} {b t sz : Nat} : Heap.typed (σ ++ [Blk.tys b t sz]) b t sz = true := by
  unfold Heap.typed
  rw [List.any_eq_true]
  exact ⟨Blk.tys b t sz, List.mem_append_right _ (by simp), by simp⟩
theorem typed_set {σ : Heap} {b t sz c : Nat} {x y : Blk} (h : σ.typed b t sz = true) (hx : σ[c]? = some x) (hn : x.isTys = false) : Heap.typed (σ.set c y) b t sz = true := typed_mono h fun z hz ht => by
  obtain ⟨j, hj⟩ := List.mem_iff_getElem?.1 hz
  have : j ≠ c := fun e => by
    subst e
    rw [hx] at hj
    injection hj with hj
    subst hj
    rw [hn] at ht
    cases ht
  exact List.mem_iff_getElem?.2 ⟨j, by rw [List.getElem?_set_ne (Ne.symm this)]; exact hj⟩
/-! ### copyCheck -/
theorem check_call {σ : Heap} {b : Nat} {a buf : AVal} (hrow : σ[b]? = some (.row [a, buf] .rw)) (ha : (a = .ptr none ∧ σ.typed b 137 2 = true) ∨ a = .ptr (some (b, 0))) (hoff : σ.typed b 137 2 = true) :
    CallOK Tryz.prog T 95 [.ptr (some (b, 0))] σ (.tuple []) (σ.set b (.row [.ptr (some (b, 0)), buf] .rw)) := by
  intro ρ ws w hH hG hw
  simp only [VRels, VRel] at hw
  obtain ⟨v, vs, rfl, ⟨pl, hp, rfl⟩, rfl⟩ := hw
  obtain ⟨j, hj⟩ := typed_get hoff
  obtain ⟨_, q, g1, g2, g3, g4⟩ := hH.tys j _ _ _ hj
  rw [hp] at g1
  injection g1 with g1
  subst g1
  obtain ⟨x, hx, hB⟩ := hH.blk b pl hp
  rw [hrow] at hx
  injection hx with hx
  subst hx
  obtain ⟨c, ty, fr, c1, c2, c3, c4, c5, c6, c7⟩ := hB
  have hsz : c.size = 2 := by rw [c2]; exact g4.resolve_left (by decide)
  obtain ⟨v0, v1, v2⟩ := c4 0 a rfl
  have hL : LRel ρ noL [] σ w := ⟨fun t k h => (by cases h), fun t t' k h => (by cases h), fun t k b pl x h => (by cases h)⟩
  have hcell : w.cell? ⟨pl.blk, 0, none⟩ = some v0 := by
    rw [g3, Nat.add_zero] at v1
    simp [World.cell?, c1, v1]
  have hself : VRel ρ noL (.ptr (some (b, 0))) (.pointer (some ⟨pl.blk, 0, none⟩)) := by
    simp only [VRel]
    exact ⟨pl, hp, by rw [g3]⟩
  have hst : σ.store b 0 [.ptr (some (b, 0))] = some (σ.set b (.row [.ptr (some (b, 0)), buf] .rw)) := by
    unfold Heap.store
    rw [hrow]
    rfl
  rw [g3, Nat.add_zero]
  rcases ha with ⟨rfl, _⟩ | rfl
  · simp only [VRel] at v2
    subst v2
    refine Calls.mono (check_fresh pl.blk w hcell (by simp [World.shape?, c1, c7, g2, hsz]) (by
      have hu := c5 rfl
      simp only [World.frozen?, c1]
      have := hu.2 0 (by omega)
      simp at this ⊢
      omega)) fun e w' ⟨he, hw'⟩ => ?_
    obtain ⟨_, h1, h2, h3⟩ := heap_store (P := Tryz.prog) hH hL hp hst (vs := [.pointer (some ⟨pl.blk, 0, none⟩)]) (by simp only [VRels]; exact ⟨_, _, rfl, hself, rfl⟩) (fun v hv => by simp at hv; subst hv; rfl)
    rw [g3, Nat.add_zero] at h1 h3
    have e : w.setCells pl.blk 0 [.pointer (some ⟨pl.blk, 0, none⟩)] = w' := hw'.symm
    rw [e] at h1 h3
    exact ⟨_, ρ, he, h1, by simp [VRel, VRels], h3⟩
  · simp only [VRel] at v2
    obtain ⟨pl', hp', rfl⟩ := v2
    rw [hp] at hp'
    injection hp' with hp'
    subst hp'
    rw [g3, Nat.add_zero] at hcell
    refine Calls.mono (check_used pl.blk w hcell) fun e w' ⟨he, hw'⟩ => ?_
    subst hw'
    have e : σ.set b (.row [.ptr (some (b, 0)), buf] .rw) = σ := by
      apply List.ext_getElem?
      intro i
      by_cases hi : i = b
      · subst hi
        rw [List.getElem?_set_self (List.getElem?_eq_some_iff.1 hrow).1, hrow]
      · rw [List.getElem?_set_ne (Ne.symm hi)]
    rw [e]
    exact ⟨_, ρ, he, hH, by simp [VRel, VRels], Step.refl ..⟩
def gCheck : ∀ R : Type, CallF1 R := fun _ args σ K => match args with
  | [.ptr (some (b, 0))] => match σ[b]? with
    | some (.row [a, buf] .rw) => match σ.typed b 137 2 with
      | true => match a with
        | .ptr none => K (.tuple []) (σ.set b (.row [.ptr (some (b, 0)), buf] .rw))
        | .ptr (some (b', 0)) => match decide (b' = b) with
          | true => K (.tuple []) (σ.set b (.row [.ptr (some (b, 0)), buf] .rw))
          | false => none
        | _ => none
      | false => none
    | _ => none
  | _ => none
theorem gCheck_ok (R : Type) (xs : List AVal) (σ : Heap) (K : AVal → Heap → Option R) (r : R) (h : gCheck R xs σ K = some r) : ∃ v σ', K v σ' = some r ∧ CallOK Tryz.prog T 95 xs σ v σ' := by
  unfold gCheck at h
  split at h
  case h_2 => cases h
  rename_i b
  split at h
  case h_2 => cases h
  rename_i a buf hrow
  split at h
  case h_2 => cases h
  rename_i ht
  split at h
  · exact ⟨_, _, h, check_call hrow (.inl ⟨rfl, ht⟩) ht⟩
  · split at h
    · rename_i b' hb
      rw [decide_eq_true_eq] at hb
      subst hb
      exact ⟨_, _, h, check_call hrow (.inr rfl) ht⟩
    · cases h
  · cases h
end Go.Abs.TE
