/-
strings.Builder: copyCheck, at the world.
strings.Builder: contracts.
cast.Export: contract.
cast.Export, law17.write, fit, Tame: contracts.
ref12.Tame, law17.fit: contracts; CastWrites, CastLines.
-/
import Derived.Test.YtohlebkhlbcnaaaDoorEqB2
import Derived.Lib.Builder
import Derived.WalkKit
import Derived.Test.YtohlebkhlbcnaaaDoorMConP
import Derived.Test.YtohlebkhlbcnaaaDoorMConQ
import Derived.Test.YtohlebkhlbcnaaaDoorMConR
namespace Go.Abs.TB
open Go Go.Abs Go.Proofs Go.RowKit

theorem sizeB : ∃ j, Tryd.prog.info? 51 = some j ∧ j.size ≠ 0 := by
  have h : (Tryd.prog.info? 51).map (·.size) = some 2 := by kernel_rfl
  obtain ⟨j, hj, e⟩ := Option.map_eq_some_iff.1 h
  exact ⟨j, hj, by rw [e]; decide⟩
theorem liesB : liesAt Tryd.prog Tryd.prog.depth 51 (2 / Tryd.prog.cellsOf 51) 0 51 1 = true := by kernel_rfl
set_option maxHeartbeats 1000000 in
set_option maxRecDepth 100000 in
theorem check_used (b : Nat) (w : World) (h0 : w.cell? ⟨b, 0, none⟩ = some (.pointer (some ⟨b, 0, none⟩))) :
    Calls Tryd.prog 42 #[.pointer (some ⟨b, 0, none⟩)] w fun e w' => e = .returned (.tuple #[]) ∧ w' = w := by
  obtain ⟨j, hj, _⟩ := sizeB
  go_enter Tryd.func42, Tryd.ntmps42
  go_wp2
  rw [Lib.run_neq_ptr_same w _ Tryd.underlying49 hj]
  go_wp2
  go_end0
  exact ⟨rfl, rfl⟩
set_option maxHeartbeats 1000000 in
set_option maxRecDepth 100000 in
theorem check_fresh (b : Nat) (w : World) (h0 : w.cell? ⟨b, 0, none⟩ = some (.pointer none)) (hsh : w.shape? b = some (51, 2)) (hfz : w.frozen? ⟨b, 0, none⟩ = false) :
    Calls Tryd.prog 42 #[.pointer (some ⟨b, 0, none⟩)] w fun e w' => e = .returned (.tuple #[]) ∧ w' = w.setCell ⟨b, 0, none⟩ (.pointer (some ⟨b, 0, none⟩)) := by
  obtain ⟨j, hj, hjs⟩ := sizeB
  go_enter Tryd.func42, Tryd.ntmps42
  go_wp2
  rw [Lib.run_to_unsafe w ⟨b, 0, none⟩ Tryd.underlying49 Tryd.underlying78 hj hjs hsh (Nat.zero_lt_succ 1)]
  simp only [Result.andThen]
  rw [Oper.upon_value]
  go_wp2
  rw [run_callFunc_extern Tryd.func53 (by kernel_rfl) (by kernel_rfl) (by kernel_rfl) (e := Extern.AbiNoEscape.same) (by kernel_rfl)]
  rw [Lib.run_noEscape]
  simp only [Result.andThen]
  rw [Oper.upon_value]
  go_wp2
  rw [Lib.run_from_unsafe w ⟨b, 0, none⟩ Tryd.underlying78 Tryd.underlying49 hj hsh liesB]
  simp only [Result.andThen]
  rw [Oper.upon_value]
  go_wp2
  go_end0
  exact ⟨rfl, rfl⟩
end Go.Abs.TB
namespace Go.Abs.TB
open Go Go.Abs Go.Proofs

/-- What a function does is told by a property of what it leaves. -/
noncomputable def wEx {β : Type} (F : FuncId) (args : List AVal) (av : β → AVal) (Q : β → Heap → Prop) (σ : Heap) : Option (β × Heap) :=
  open Classical in if h : ∃ r : β × Heap, CallOK Tryd.prog T F args σ (av r.1) r.2 ∧ Q r.1 r.2 then some h.choose else none
theorem wEx_ok {β : Type} {F : FuncId} {args : List AVal} {av : β → AVal} {Q : β → Heap → Prop} {σ σ' : Heap} {v : β} (h : wEx F args av Q σ = some (v, σ')) : CallOK Tryd.prog T F args σ (av v) σ' := by
  unfold wEx at h
  split at h
  · rename_i hh
    injection h with h
    have := hh.choose_spec.1
    rw [h] at this
    exact this
  · cases h
theorem wEx_ex {β : Type} {F : FuncId} {args : List AVal} {av : β → AVal} {Q : β → Heap → Prop} {σ σ' : Heap} {v : β} (h : CallOK Tryd.prog T F args σ (av v) σ') (hq : Q v σ') : ∃ v' σ2, wEx F args av Q σ = some (v', σ2) ∧ Q v' σ2 := by
  have hh : ∃ r : β × Heap, CallOK Tryd.prog T F args σ (av r.1) r.2 ∧ Q r.1 r.2 := ⟨(v, σ'), h, hq⟩
  refine ⟨hh.choose.1, hh.choose.2, ?_, hh.choose_spec.2⟩
  unfold wEx
  rw [dif_pos hh]
/-! ### Types that are told -/
theorem typed_mono {σ σ' : Heap} {b t sz : Nat} (h : σ.typed b t sz = true) (hs : ∀ x ∈ σ, x.isTys = true → x ∈ σ') : σ'.typed b t sz = true := by
  unfold Heap.typed at h ⊢
  rw [List.any_eq_true] at h ⊢
  obtain ⟨x, hx, h⟩ := h
  refine ⟨x, hs x hx ?_, h⟩
  cases x with
  | tys b t sz => rfl
  | row cs m => cases h
  | map es m => cases h
theorem typed_pre {σ σ' : Heap} {b t sz : Nat} (h : σ.typed b t sz = true) (hp : σ <+: σ') : σ'.typed b t sz = true := typed_mono h fun _ hx _ => hp.subset hx
theorem typed_new {σ : Heap} {b t sz : Nat} : Heap.typed (σ ++ [Blk.tys b t sz]) b t sz = true := by
  unfold Heap.typed
  rw [List.any_eq_true]
  exact ⟨Blk.tys b t sz, List.mem_append_right _ (by simp), by simp⟩
theorem typed_set {σ : Heap} {b t sz c : Nat} {x y : Blk} (h : σ.typed b t sz = true) (hx : σ[c]? = some x) (hn : x.isTys = false) : Heap.typed (σ.set c y) b t sz = true := typed_mono h fun z hz ht => by
  obtain ⟨j, hj⟩ := List.mem_iff_getElem?.1 hz
  have : j ≠ c := fun e => by
    subst e
    rw [hx] at hj
    injection hj with hj
    subst hj
    rw [hn] at ht
    cases ht
  exact List.mem_iff_getElem?.2 ⟨j, by rw [List.getElem?_set_ne (Ne.symm this)]; exact hj⟩
/-! ### copyCheck -/
theorem check_call {σ : Heap} {b : Nat} {a buf : AVal} (hrow : σ[b]? = some (.row [a, buf] .rw)) (ha : (a = .ptr none ∧ σ.typed b 51 2 = true) ∨ a = .ptr (some (b, 0))) (hoff : σ.typed b 51 2 = true) :
    CallOK Tryd.prog T 42 [.ptr (some (b, 0))] σ (.tuple []) (σ.set b (.row [.ptr (some (b, 0)), buf] .rw)) := by
  intro ρ ws w hH hG hw
  simp only [VRels, VRel] at hw
  obtain ⟨v, vs, rfl, ⟨pl, hp, rfl⟩, rfl⟩ := hw
  obtain ⟨j, hj⟩ := typed_get hoff
  obtain ⟨_, q, g1, g2, g3, g4⟩ := hH.tys j _ _ _ hj
  rw [hp] at g1
  injection g1 with g1
  subst g1
  obtain ⟨x, hx, hB⟩ := hH.blk b pl hp
  rw [hrow] at hx
  injection hx with hx
  subst hx
  obtain ⟨c, ty, fr, c1, c2, c3, c4, c5, c6, c7⟩ := hB
  have hsz : c.size = 2 := by rw [c2]; exact g4.resolve_left (by decide)
  obtain ⟨v0, v1, v2⟩ := c4 0 a rfl
  have hL : LRel ρ noL [] σ w := ⟨fun t k h => (by cases h), fun t t' k h => (by cases h), fun t k b pl x h => (by cases h)⟩
  have hcell : w.cell? ⟨pl.blk, 0, none⟩ = some v0 := by
    rw [g3, Nat.add_zero] at v1
    simp [World.cell?, c1, v1]
  have hself : VRel ρ noL (.ptr (some (b, 0))) (.pointer (some ⟨pl.blk, 0, none⟩)) := by
    simp only [VRel]
    exact ⟨pl, hp, by rw [g3]⟩
  have hst : σ.store b 0 [.ptr (some (b, 0))] = some (σ.set b (.row [.ptr (some (b, 0)), buf] .rw)) := by
    unfold Heap.store
    rw [hrow]
    rfl
  rw [g3, Nat.add_zero]
  rcases ha with ⟨rfl, _⟩ | rfl
  · simp only [VRel] at v2
    subst v2
    refine Calls.mono (check_fresh pl.blk w hcell (by simp [World.shape?, c1, c7, g2, hsz]) (by
      have hu := c5 rfl
      simp only [World.frozen?, c1]
      have := hu.2 0 (by omega)
      simp at this ⊢
      omega)) fun e w' ⟨he, hw'⟩ => ?_
    obtain ⟨_, h1, h2, h3⟩ := heap_store (P := Tryd.prog) hH hL hp hst (vs := [.pointer (some ⟨pl.blk, 0, none⟩)]) (by simp only [VRels]; exact ⟨_, _, rfl, hself, rfl⟩) (fun v hv => by simp at hv; subst hv; rfl)
    rw [g3, Nat.add_zero] at h1 h3
    have e : w.setCells pl.blk 0 [.pointer (some ⟨pl.blk, 0, none⟩)] = w' := hw'.symm
    rw [e] at h1 h3
    exact ⟨_, ρ, he, h1, by simp [VRel, VRels], h3⟩
  · simp only [VRel] at v2
    obtain ⟨pl', hp', rfl⟩ := v2
    rw [hp] at hp'
    injection hp' with hp'
    subst hp'
    rw [g3, Nat.add_zero] at hcell
    refine Calls.mono (check_used pl.blk w hcell) fun e w' ⟨he, hw'⟩ => ?_
    subst hw'
    have e : σ.set b (.row [.ptr (some (b, 0)), buf] .rw) = σ := by
      apply List.ext_getElem?
      intro i
      by_cases hi : i = b
      · subst hi
        rw [List.getElem?_set_self (List.getElem?_eq_some_iff.1 hrow).1, hrow]
      · rw [List.getElem?_set_ne (Ne.symm hi)]
    rw [e]
    exact ⟨_, ρ, he, hH, by simp [VRel, VRels], Step.refl ..⟩
noncomputable def w_strings_Builder_copyCheck (p : Pt) (σ : Heap) : Option (Unit × Heap) := wEx 42 [.ptr p] tVoid.av (fun _ σ' => ∀ b a buf, p = some (b, 0) → σ[b]? = some (.row [a, buf] .rw) → σ' = σ.set b (.row [.ptr (some (b, 0)), buf] .rw)) σ
theorem ok_strings_Builder_copyCheck : Ok_strings_Builder_copyCheck w_strings_Builder_copyCheck := fun _ _ _ _ h => wEx_ok h
theorem w_copyCheck_eq {σ : Heap} {b : Nat} {a buf : AVal} (hrow : σ[b]? = some (.row [a, buf] .rw)) (ha : a = .ptr none ∨ a = .ptr (some (b, 0))) (ht : σ.typed b 51 2 = true) :
    w_strings_Builder_copyCheck (some (b, 0)) σ = some ((), σ.set b (.row [.ptr (some (b, 0)), buf] .rw)) := by
  obtain ⟨v', σ2, h1, h2⟩ := wEx_ex (av := tVoid.av) (v := ()) (Q := fun _ σ' => ∀ b' a buf, some (b, 0) = some (b', 0) → σ[b']? = some (.row [a, buf] .rw) → σ' = σ.set b' (.row [.ptr (some (b', 0)), buf] .rw)) (check_call hrow (ha.imp (fun h => ⟨h, ht⟩) id) ht) (fun b' a' buf' e h => by
    injection e with e
    injection e with e _
    subst e
    rw [hrow] at h
    injection h with h
    simp only [Blk.row.injEq, List.cons.injEq, and_true] at h
    rw [h.2])
  unfold w_strings_Builder_copyCheck
  rw [h1, h2 b a buf rfl hrow]
/-! ### A builder in memory -/
/-- The builder's buffer. -/
def bufOf (σ : Heap) (b : Nat) : Option Nat := match σ[b]? with
  | some (.row [_, .slice g _ _ _] _) => g
  | _ => none
/-- A builder in block b. -/
structure Bld (σ : Heap) (b : Nat) (xs : List UInt8) : Prop where
  t : σ.typed b 51 2 = true
  row : ∃ a buf, σ[b]? = some (.row [a, buf] .rw) ∧ (a = .ptr none ∨ a = .ptr (some (b, 0))) ∧
    ((buf = .slice none 0 0 1 ∧ xs = []) ∨ ∃ g, buf = .slice (some g) 0 xs.length 1 ∧ xs ≠ [] ∧ g ≠ b ∧ σ[g]? = some (.row (eU8.all xs) .rw) ∧ σ.typed g 5 0 = true)
theorem Bld.lt {σ : Heap} {b : Nat} {xs : List UInt8} (h : Bld σ b xs) : b < σ.length := by
  obtain ⟨a, buf, e, _⟩ := h.row
  exact (List.getElem?_eq_some_iff.1 e).1
theorem Bld.pre {σ σ' : Heap} {b : Nat} {xs : List UInt8} (h : Bld σ b xs) (hp : σ <+: σ') : Bld σ' b xs := by
  obtain ⟨a, buf, e1, e2, e3⟩ := h.row
  refine ⟨typed_pre h.t hp, a, buf, by rw [get_pre hp h.lt]; exact e1, e2, e3.imp id fun ⟨g, g1, g2, g4, g5, g6⟩ => ⟨g, g1, g2, g4, by rw [get_pre hp (List.getElem?_eq_some_iff.1 g5).1]; exact g5, typed_pre g6 hp⟩⟩
theorem Bld.buf_lt {σ : Heap} {b : Nat} {xs : List UInt8} (h : Bld σ b xs) {g : Nat} (hg : bufOf σ b = some g) : g < σ.length := by
  obtain ⟨a, buf, e1, e2, e3⟩ := h.row
  unfold bufOf at hg
  rw [e1] at hg
  rcases e3 with ⟨rfl, _⟩ | ⟨g', rfl, _, _, g5, _⟩
  · cases hg
  · injection hg with hg
    subst hg
    exact (List.getElem?_eq_some_iff.1 g5).1
theorem Bld.uniq {σ : Heap} {b : Nat} {xs ys : List UInt8} (h : Bld σ b xs) (h' : Bld σ b ys) : xs = ys := by
  obtain ⟨a, buf, e1, _, e2⟩ := h.row
  obtain ⟨a', buf', f1, _, f2⟩ := h'.row
  rw [e1] at f1
  injection f1 with f1
  simp only [Blk.row.injEq, List.cons.injEq, and_true] at f1
  obtain ⟨rfl, rfl⟩ := f1
  rcases e2 with ⟨g1, g2⟩ | ⟨g, g1, g2, g4, g5, g6⟩
  · rcases f2 with ⟨k1, k2⟩ | ⟨k, k1, k2, k4, k5, k6⟩
    · rw [g2, k2]
    · rw [g1] at k1; cases k1
  · rcases f2 with ⟨k1, k2⟩ | ⟨k, k1, k2, k4, k5, k6⟩
    · rw [g1] at k1; cases k1
    · rw [g1] at k1
      simp only [AVal.slice.injEq, Option.some.injEq, true_and, and_true] at k1
      obtain ⟨rfl, _⟩ := k1
      rw [g5] at k5
      injection k5 with k5
      simp only [Blk.row.injEq, and_true] at k5
      exact eU8.all_inj (by decide) k5
/-! ### WriteString -/
noncomputable def c_strings_Builder_WriteString : C_strings_Builder_WriteString := { strings_Builder_copyCheck := w_strings_Builder_copyCheck }
/-- What a write leaves. -/
structure Wrt (σ : Heap) (b : Nat) (ys : List UInt8) (σ' : Heap) : Prop where
  bld : Bld σ' b ys
  len : σ.length ≤ σ'.length
  at_ : ∀ c, c < σ.length → c ≠ b → bufOf σ b ≠ some c → σ'[c]? = σ[c]?
  buf : ∀ g, bufOf σ' b = some g → bufOf σ b = some g ∨ σ.length ≤ g
def QW (p : Pt) (s : ByteArray) (σ : Heap) (r : Int × Er) (σ' : Heap) : Prop := ∀ b xs, p = some (b, 0) → Bld σ b xs → r = ((s.size : Int), ⟨true⟩) ∧ Wrt σ b (xs ++ s.data.toList) σ'
noncomputable def w_strings_Builder_WriteString (p : Pt) (s : ByteArray) (σ : Heap) : Option ((Int × Er) × Heap) := wEx 30 [.ptr p, .str s] (tPair (tInt .i64) tErr).av (QW p s σ) σ
theorem ok_strings_Builder_WriteString : Ok_strings_Builder_WriteString w_strings_Builder_WriteString := fun _ _ _ _ _ h => wEx_ok h
theorem str_cells (s : ByteArray) : (s.data.toList.map fun b => AVal.int .u8 b.toNat).take s.size = eU8.all s.data.toList := by
  have h : s.data.toList.length = s.size := by rw [Array.length_toList]; rfl
  rw [List.take_of_length_le (by rw [List.length_map, h]; exact Nat.le_refl _)]
  generalize s.data.toList = l
  induction l with
  | nil => rfl
  | cons x l ih =>
    rw [List.map_cons, ih, El.all_cons]
    rfl
/-- The buffer grows. -/
theorem buf_grows {σ : Heap} {b : Nat} {buf : AVal} {xs : List UInt8} (hb : b < σ.length) (ht : σ.typed b 51 2 = true) (s : List UInt8) (hl : xs.length + s.length ≤ 70368744177664)
    (h : (buf = .slice none 0 0 1 ∧ xs = []) ∨ ∃ g, buf = .slice (some g) 0 xs.length 1 ∧ xs ≠ [] ∧ g ≠ b ∧ σ[g]? = some (.row (eU8.all xs) .rw) ∧ σ.typed g 5 0 = true) :
    ∃ bo no q σ2, slice? (some buf) 1 = some (bo, 0, no) ∧ Heap.appendT σ bo 0 no 1 1 (eU8.all s) s.length 5 = some (q, σ2) ∧ σ.length ≤ σ2.length ∧ σ2[b]? = σ[b]? ∧ σ2.typed b 51 2 = true ∧
      (∀ c, c < σ.length → bo ≠ some c → σ2[c]? = σ[c]?) ∧
      ((q = (none, 0, 0) ∧ xs ++ s = []) ∨ ∃ g, q = (some g, 0, (xs ++ s).length) ∧ xs ++ s ≠ [] ∧ (bo = some g ∨ σ.length ≤ g) ∧ g ≠ b ∧ σ2[g]? = some (.row (eU8.all (xs ++ s)) .rw) ∧ σ2.typed g 5 0 = true) := by
  have hal : ∀ l : List UInt8, (eU8.all l).length = l.length := fun l => by rw [El.all_len]; show l.length * 1 = _; omega
  have happ : ∀ l m : List UInt8, eU8.all (l ++ m) = eU8.all l ++ eU8.all m := fun l m => El.all_append ..
  rcases h with ⟨rfl, rfl⟩ | ⟨g, rfl, g2, g4, g5, g6⟩
  · by_cases h0 : s = []
    · subst h0
      exact ⟨none, 0, (none, 0, 0), σ, rfl, rfl, Nat.le_refl _, rfl, ht, fun _ _ _ => rfl, .inl ⟨rfl, rfl⟩⟩
    · have hz : s.length ≠ 0 := fun e => h0 (List.eq_nil_of_length_eq_zero e)
      refine ⟨none, 0, (some σ.length, 0, s.length), σ ++ [.row (eU8.all s) .rw] ++ [.tys σ.length 5 0], rfl, ?_, by simp, ?_, ?_, fun c hc _ => ?_, .inr ⟨σ.length, by rw [List.nil_append], by rw [List.nil_append]; exact h0, .inr (Nat.le_refl _), by omega, ?_, typed_new⟩⟩
      · unfold Heap.appendT Heap.append
        simp only [Nat.zero_add, Nat.mul_one]
        rw [if_neg hz, if_pos ⟨by omega, by omega, hal s⟩]
        rfl
      · rw [List.append_assoc, List.getElem?_append_left hb]
      · exact typed_pre ht (by rw [List.append_assoc]; exact List.prefix_append ..)
      · rw [List.append_assoc, List.getElem?_append_left hc]
      · rw [List.nil_append, List.append_assoc, List.getElem?_append_right (Nat.le_refl _), Nat.sub_self]
        rfl
  · have hgl := (List.getElem?_eq_some_iff.1 g5).1
    by_cases h0 : s = []
    · subst h0
      refine ⟨some g, xs.length, (some g, 0, xs.length), σ ++ [.tys g 5 0], rfl, ?_, by simp, by rw [List.getElem?_append_left hb], typed_pre ht (List.prefix_append ..), fun c hc _ => by rw [List.getElem?_append_left hc], .inr ⟨g, by rw [List.append_nil], by rw [List.append_nil]; exact g2, .inl rfl, g4, by rw [List.append_nil, List.getElem?_append_left hgl]; exact g5, typed_new⟩⟩
      unfold Heap.appendT Heap.append
      simp only [List.length_nil, g6, if_true]
      rfl
    · have hz : s.length ≠ 0 := fun e => h0 (List.eq_nil_of_length_eq_zero e)
      have hset : (σ.set g (.row [] .dead)).length = σ.length := List.length_set ..
      refine ⟨some g, xs.length, (some σ.length, 0, xs.length + s.length), σ.set g (.row [] .dead) ++ [.row (eU8.all (xs ++ s)) .rw] ++ [.tys σ.length 5 0], rfl, ?_, by simp, ?_, ?_, fun c hc hne => ?_, .inr ⟨σ.length, by rw [List.length_append], by simp [h0], .inr (Nat.le_refl _), by omega, ?_, typed_new⟩⟩
      · unfold Heap.appendT Heap.append
        simp only [Nat.mul_one, g6, Nat.zero_add]
        rw [if_neg hz, if_pos ⟨by omega, by omega, hal s⟩, g5]
        dsimp only
        rw [if_pos (by rw [hal]; exact Nat.le_refl _), List.drop_zero, List.take_of_length_le (by rw [hal]; exact Nat.le_refl _), ← happ]
        rfl
      · rw [List.append_assoc, List.getElem?_append_left (by omega), List.getElem?_set_ne g4]
      · exact typed_pre (typed_set ht g5 rfl) (by rw [List.append_assoc]; exact List.prefix_append ..)
      · rw [List.append_assoc, List.getElem?_append_left (by omega), List.getElem?_set_ne (fun e => hne (by rw [e]))]
      · rw [List.append_assoc, List.getElem?_append_right (by omega), hset, Nat.sub_self]
        rfl
theorem w_WriteString_eq {σ : Heap} {b : Nat} {xs : List UInt8} (h : Bld σ b xs) (s : ByteArray) (hl : xs.length + s.size ≤ 70368744177664) :
    ∃ σ', w_strings_Builder_WriteString (some (b, 0)) s σ = some (((s.size : Int), ⟨true⟩), σ') ∧ Wrt σ b (xs ++ s.data.toList) σ' := by
  have hsz : s.data.toList.length = s.size := by rw [Array.length_toList]; rfl
  obtain ⟨a, buf, e1, e2, e3⟩ := h.row
  have hb := h.lt
  have p1 : c_strings_Builder_WriteString.strings_Builder_copyCheck = w_strings_Builder_copyCheck := rfl
  have hr := strings_Builder_WriteString_eq (R := AVal × Heap) c_strings_Builder_WriteString 0 (some (b, 0)) s σ fun v σ => some (v, σ)
  rw [p1, w_copyCheck_eq e1 e2 h.t, Option.bind_some, str_cells] at hr
  simp only [Option.bind_some] at hr
  have hrow1 : (σ.set b (.row [.ptr (some (b, 0)), buf] .rw))[b]? = some (.row [.ptr (some (b, 0)), buf] .rw) := List.getElem?_set_self hb
  have hc : Heap.cell? (σ.set b (.row [.ptr (some (b, 0)), buf] .rw)) b (0 + 1) = some buf := by
    unfold Heap.cell?
    rw [row?_of hrow1 (by simp)]
    rfl
  have hlen1 : (σ.set b (.row [.ptr (some (b, 0)), buf] .rw)).length = σ.length := List.length_set ..
  have hat1 : ∀ c, c ≠ b → (σ.set b (.row [.ptr (some (b, 0)), buf] .rw))[c]? = σ[c]? := fun c hc => List.getElem?_set_ne (Ne.symm hc)
  obtain ⟨bo, no, q, σ2, k0, k1, k2, k3, k4, k5, k6⟩ := buf_grows (σ := σ.set b (.row [.ptr (some (b, 0)), buf] .rw)) (by rw [hlen1]; exact hb) (typed_set h.t e1 rfl) s.data.toList (by rw [hsz]; exact hl)
    (e3.imp id fun ⟨g, g1, g2, g4, g5, g6⟩ => ⟨g, g1, g2, g4, by rw [hat1 g g4]; exact g5, typed_set g6 e1 rfl⟩)
  rw [hlen1] at k2 k5 k6
  have hbo : bufOf σ b = bo := by
    unfold bufOf
    rw [e1]
    rcases e3 with ⟨rfl, _⟩ | ⟨g, rfl, _⟩
    · injection k0 with k0; injection k0
    · injection k0 with k0; injection k0
  rw [hc, k0, Option.bind_some] at hr
  dsimp only at hr
  rw [← hsz, k1, Option.bind_some] at hr
  have hrow2 : σ2[b]? = some (.row [.ptr (some (b, 0)), buf] .rw) := by rw [k3]; exact hrow1
  have hst : σ2.store b (0 + 1) [.slice q.1 q.2.1 q.2.2 1] = some (σ2.set b (.row [.ptr (some (b, 0)), .slice q.1 q.2.1 q.2.2 1] .rw)) := by
    unfold Heap.store
    rw [hrow2]
    rfl
  dsimp only at hr
  rw [hst, Option.bind_some] at hr
  have hb2 := (List.getElem?_eq_some_iff.1 hrow2).1
  have hW : Wrt σ b (xs ++ s.data.toList) (σ2.set b (.row [.ptr (some (b, 0)), .slice q.1 q.2.1 q.2.2 1] .rw)) := by
    refine ⟨⟨typed_set k4 hrow2 rfl, _, _, List.getElem?_set_self hb2, .inr rfl, ?_⟩, by rw [List.length_set]; omega, fun c hc1 hc2 hc3 => ?_, fun g hg => ?_⟩
    · rcases k6 with ⟨rfl, k7⟩ | ⟨g, rfl, k7, k8, k9, k10, k11⟩
      · exact .inl ⟨rfl, k7⟩
      · exact .inr ⟨g, rfl, k7, k9, by rw [List.getElem?_set_ne (Ne.symm k9)]; exact k10, typed_set k11 hrow2 rfl⟩
    · rw [List.getElem?_set_ne (Ne.symm hc2), k5 c hc1 (by rw [← hbo]; exact hc3), hat1 c hc2]
    · unfold bufOf at hg
      rw [List.getElem?_set_self hb2] at hg
      have hg' : q.1 = some g := hg
      rcases k6 with ⟨rfl, k7⟩ | ⟨g', rfl, k7, k8, k9, k10, k11⟩
      · cases hg'
      · injection hg' with hg'
        subst hg'
        rw [hbo]
        exact k8
  have hcall := call_ok ok (K_strings_Builder_WriteString c_strings_Builder_WriteString ok_strings_Builder_copyCheck) hr
  have hcall' : CallOK Tryd.prog T 30 [.ptr (some (b, 0)), .str s] σ ((tPair (tInt .i64) tErr).av ((s.size : Int), ⟨true⟩)) (σ2.set b (.row [.ptr (some (b, 0)), .slice q.1 q.2.1 q.2.2 1] .rw)) := by
    intro ρ ws w hH hG hw
    refine Calls.mono (hcall ρ ws w hH hG hw) fun e w' ⟨cv, ρ', he, q1, q2, q3⟩ => ⟨cv, ρ', he, q1, ?_, q3⟩
    simp only [VRel, VRels, tPair, tInt, tErr] at q2 ⊢
    rw [hsz] at q2
    exact q2
  obtain ⟨v', σ', r1, r2⟩ := wEx_ex (Q := QW (some (b, 0)) s σ) hcall' (fun b' xs' e h' => by
    injection e with e
    injection e with e _
    subst e
    obtain rfl := h'.uniq h
    exact ⟨rfl, hW⟩)
  obtain ⟨r3, r4⟩ := r2 b xs rfl h
  subst r3
  exact ⟨σ', r1, r4⟩
/-! ### String -/
def QS (p : Pt) (σ : Heap) (r : ByteArray) (σ' : Heap) : Prop := ∀ b xs, p = some (b, 0) → Bld σ b xs → r = ba xs ∧ σ.length ≤ σ'.length ∧ ∀ c, c < σ.length → bufOf σ b ≠ some c → σ'[c]? = σ[c]?
noncomputable def w_strings_Builder_String (p : Pt) (σ : Heap) : Option (ByteArray × Heap) := wEx 32 [.ptr p] tStr.av (QS p σ) σ
theorem ok_strings_Builder_String : Ok_strings_Builder_String w_strings_Builder_String := fun _ _ _ _ h => wEx_ok h
theorem bytesX_all (xs : List UInt8) : bytesX (eU8.all xs) = some xs := by
  induction xs with
  | nil => rfl
  | cons x xs ih =>
    rw [El.all_cons]
    show bytesX (.int .u8 (x.toNat : Int) :: eU8.all xs) = _
    have : UInt8.ofNat (x.toNat : Int).toNat = x := by simp
    simp only [bytesX, this, ih]
    rfl
theorem w_BString_eq {σ : Heap} {b : Nat} {xs : List UInt8} (h : Bld σ b xs) (hl : xs.length ≤ 70368744177664) :
    ∃ σ', w_strings_Builder_String (some (b, 0)) σ = some (ba xs, σ') ∧ σ.length ≤ σ'.length ∧ ∀ c, c < σ.length → bufOf σ b ≠ some c → σ'[c]? = σ[c]? := by
  obtain ⟨a, buf, e1, e2, e3⟩ := h.row
  have hr := strings_Builder_String_eq (R := AVal × Heap) 0 (some (b, 0)) σ fun v σ => some (v, σ)
  have hal : ∀ l : List UInt8, (eU8.all l).length = l.length := fun l => by rw [El.all_len]; show l.length * 1 = _; omega
  have hc : Heap.cell? σ b (0 + 1) = some buf := by
    unfold Heap.cell?
    rw [row?_of e1 (by simp)]
    rfl
  simp only [Option.bind_some, hc] at hr
  have core : ∃ σ', callC T known0 0 2 32 [.ptr (some (b, 0))] σ (fun v σ => some (v, σ)) = some (.str (ba xs), σ') ∧ σ.length ≤ σ'.length ∧ ∀ c, c < σ.length → bufOf σ b ≠ some c → σ'[c]? = σ[c]? := by
    rcases e3 with ⟨rfl, rfl⟩ | ⟨g, rfl, g2, g4, g5, g6⟩
    · exact ⟨σ, hr.trans rfl, Nat.le_refl _, fun _ _ _ => rfl⟩
    · have hxl := List.length_pos_iff.2 g2
      refine ⟨σ.set g (.row [] .dead), hr.trans ?_, by rw [List.length_set]; exact Nat.le_refl _, fun c _ hne => ?_⟩
      · have hs : slice? (some (AVal.slice (some g) 0 xs.length 1)) 1 = some (some g, 0, xs.length) := rfl
        simp only [hs, Option.bind_some, sliceData]
        rw [decide_eq_true hxl]
        dsimp only [Option.bind_some]
        have ht : Heap.textOf σ (some (g, 0)) (xs.length : Int) 5 = some (ba xs, σ.set g (.row [] .dead)) := by
          unfold Heap.textOf
          dsimp only
          rw [decide_eq_true rfl, decide_eq_true (show (0 : Int) < (xs.length : Int) by omega), decide_eq_true (show (xs.length : Int) ≤ 9223372036854775807 by omega), g6]
          simp only [Bool.and_true, Bool.true_and]
          rw [g5]
          dsimp only
          rw [Int.toNat_natCast, decide_eq_true (by rw [hal]; exact Nat.le_refl _)]
          dsimp only
          rw [List.take_of_length_le (by rw [hal]; exact Nat.le_refl _), bytesX_all]
          rfl
        rw [ht]
        rfl
      · rw [List.getElem?_set_ne (fun e => hne (by subst e; unfold bufOf; rw [e1]))]
  obtain ⟨σ', c1, c2, c3⟩ := core
  obtain ⟨v', σ3, r1, r2⟩ := wEx_ex (av := tStr.av) (v := ba xs) (Q := QS (some (b, 0)) σ) (call_ok ok known0_ok c1) (fun b' xs' e h' => by
    injection e with e
    injection e with e _
    subst e
    obtain rfl := h'.uniq h
    exact ⟨rfl, c2, c3⟩)
  obtain ⟨r3, r4, r5⟩ := r2 b xs rfl h
  subst r3
  exact ⟨σ3, r1, r4, r5⟩
end Go.Abs.TB
namespace Go.Abs.TB
open Go Go.Abs Go.Proofs

/-! ### Events -/
structure Ev where
  t : Int
  k : Int
  s : ByteArray
  w : Int
  h : Int
def eEv : El Ev := ⟨5, fun e => [.int .i64 e.t, .int .i64 e.k, .str e.s, .int .i64 e.w, .int .i64 e.h], fun _ => rfl, fun a b h => by
  cases a; cases b; simpa using h⟩
instance : El.Flat eEv := ⟨fun _ => rfl⟩
/-- An event that can be written. -/
structure Ev.Fit (e : Ev) : Prop where
  t0 : 0 ≤ e.t
  t1 : e.t < 9223372036854775808
  k0 : 0 ≤ e.k
  k1 : e.k < 4
  s : e.s.size ≤ 1000
  w : I64 e.w
  h : I64 e.h
def sgn (k : Int) : List UInt8 := [([111, 105, 114, 109] : List UInt8).getD k.toNat 0]
def Ev.text (e : Ev) : ByteArray := bif e.k == 2 then ba (Lib.itoa e.w ++ 120 :: Lib.itoa e.h) else e.s
def lineL (e : Ev) : List UInt8 := 91 :: (timeL e.t.toNat ++ ([44, 32, 34] ++ (sgn e.k ++ ([34, 44, 32] ++ (quoteB e.text ++ [93, 10])))))
def headL (w h : Int) : List UInt8 := [123, 34, 118, 101, 114, 115, 105, 111, 110, 34, 58, 32, 50, 44, 32, 34, 119, 105, 100, 116, 104, 34, 58, 32] ++ (Lib.itoa w ++ ([44, 32, 34, 104, 101, 105, 103, 104, 116, 34, 58, 32] ++ (Lib.itoa h ++ [125, 10])))
def exportL (w h : Int) (es : List Ev) : List UInt8 := headL w h ++ es.flatMap lineL
theorem sgn_ex {k : Int} (h0 : 0 ≤ k) (h4 : k < 4) : (((decide (0 ≤ k)) && (decide (k ≤ (IntKind.i64.wrap (k + 1))))) && (decide ((IntKind.i64.wrap (k + 1)) ≤ 4))) = true ∧ (⟨#[111, 105, 114, 109]⟩ : ByteArray).extract k.toNat (IntKind.i64.wrap (k + 1)).toNat = ba (sgn k) := by
  have : k = 0 ∨ k = 1 ∨ k = 2 ∨ k = 3 := by omega
  rcases this with rfl | rfl | rfl | rfl <;> exact ⟨by decide, by decide +kernel⟩
theorem itoa_len {n : Int} (h : I64 n) : (Lib.itoa n).length ≤ 20 := by
  unfold Lib.itoa
  split
  · have := h.1
    have := dec_len_le (u := n.natAbs) (k := 19) (by omega) (by decide)
    simp only [List.length_cons]
    omega
  · have := h.2
    have := dec_len_le (u := n.toNat) (k := 19) (by omega) (by decide)
    omega
theorem pad6_len (n : Nat) (h : n < 1000000) : (pad6 n).length ≤ 6 := by
  have := dec_len_le (u := n) (k := 6) h (by decide)
  unfold pad6
  simp only [List.length_append, List.length_replicate]
  omega
theorem timeL_len {n : Nat} (h : n < 9223372036854775808) : (timeL n).length ≤ 26 := by
  have h1 := dec_len20 (n := n / 1000000) (by omega)
  have h2 := pad6_len (n % 1000000) (Nat.mod_lt _ (by decide))
  unfold timeL
  simp only [List.length_append, List.length_cons]
  omega
theorem quoteB_len (s : ByteArray) : (quoteB s).length ≤ 6 * s.size + 2 := by
  rw [quoteB_L]
  have := quoteL_len s.data.toList
  rwa [Array.length_toList] at this
theorem text_len {e : Ev} (h : e.Fit) : e.text.size ≤ 1000 := by
  unfold Ev.text
  cases e.k == 2 with
  | true =>
    have h1 := itoa_len h.w
    have h2 := itoa_len h.h
    show (ba _).size ≤ _
    rw [ba_size, List.length_append, List.length_cons]
    omega
  | false => exact h.s
theorem line_len {e : Ev} (h : e.Fit) : (lineL e).length ≤ 7000 := by
  have h1 := timeL_len (n := e.t.toNat) (by have := h.t0; have := h.t1; omega)
  have h2 := quoteB_len e.text
  have h3 := text_len h
  unfold lineL sgn
  simp only [List.length_append, List.length_cons, List.length_nil]
  omega
theorem head_len {w h : Int} (hw : I64 w) (hh : I64 h) : (headL w h).length ≤ 100 := by
  have h1 := itoa_len hw
  have h2 := itoa_len hh
  unfold headL
  simp only [List.length_append, List.length_cons, List.length_nil]
  omega
theorem frz_get {σ : Heap} {b : Nat} {cs : List AVal} (h : σ[b]? = some (.row cs .ro)) : σ.frz[b]? = some (.row cs .ro) := by
  unfold Heap.frz
  rw [List.getElem?_map, h]
  rfl
theorem GP.frz {σ : Heap} (h : GP σ) : GP σ.frz := frz_get h
theorem ba_lit (l : List UInt8) : (⟨l.toArray⟩ : ByteArray) = ba l := rfl
/-- What Export has made so far. -/
structure Made (σ0 : Heap) (b : Nat) (σ : Heap) (xs : List UInt8) : Prop where
  len : σ0.length ≤ σ.length
  old : ∀ c, c < σ0.length → σ[c]? = σ0[c]?
  bld : Bld σ b xs
  new : σ0.length ≤ b
  buf : ∀ g, bufOf σ b = some g → σ0.length ≤ g
theorem Made.wrt {σ0 σ σ' : Heap} {b : Nat} {xs ys : List UInt8} (h : Made σ0 b σ xs) (hw : Wrt σ b ys σ') : Made σ0 b σ' ys := by
  refine ⟨Nat.le_trans h.len hw.len, fun c hc => ?_, hw.bld, h.new, fun g hg => ?_⟩
  · rw [hw.at_ c (by have := h.len; omega) (by have := h.new; omega) (fun e => by have := h.buf c e; omega)]
    exact h.old c hc
  · rcases hw.buf g hg with h1 | h1
    · exact h.buf g h1
    · have := h.len; omega
theorem Made.pre {σ0 σ : Heap} {b : Nat} {xs : List UInt8} (h : Made σ0 b σ xs) : σ0 <+: σ := pre_of_get h.len h.old
noncomputable def c_cast_Export : C_cast_Export := { json_Quote := w_json_Quote, json_Time := w_json_Time, strings_Builder_WriteString := w_strings_Builder_WriteString, strconv_Itoa := w_strconv_Itoa, strings_Builder_String := w_strings_Builder_String }
theorem Export_loop {R : Type} {L b : Nat} {l : Sl} {σ0 : Heap} {K : AVal → Heap → Option R} {es : List Ev} (hl : l.Is eEv σ0 es) (hf : ∀ e ∈ es, e.Fit) (hp : GP σ0) (hn : es.length ≤ 1000) :
    ∀ (m i : Nat) (σ : Heap) (xs : List UInt8), es.length - i < m → i ≤ es.length → Made σ0 b σ xs → xs.length ≤ 1000 + 7000 * i →
      ∃ σ', (∀ c, c < σ0.length → σ'[c]? = σ0[c]?) ∧ cast_Export_L4 c_cast_Export L m b l (i : Int) σ K = K (.str (ba (xs ++ (es.drop i).flatMap lineL))) σ'
  | 0, _, _, _, h, _, _, _ => by omega
  | m + 1, i, σ, xs, hm, hi, hM, hx => by
    have q1 : c_cast_Export.json_Quote = w_json_Quote := rfl
    have q2 : c_cast_Export.json_Time = w_json_Time := rfl
    have q3 : c_cast_Export.strings_Builder_WriteString = w_strings_Builder_WriteString := rfl
    have q4 : c_cast_Export.strconv_Itoa = w_strconv_Itoa := rfl
    have q5 : c_cast_Export.strings_Builder_String = w_strings_Builder_String := rfl
    rw [cast_Export_L4_eq, q1, q2, q3, q4, q5, hl.n]
    by_cases h : i < es.length
    · have hge : es[i]? = some es[i] := List.getElem?_eq_getElem h
      have hF := hf es[i] (List.getElem_mem h)
      have hdrop : es.drop i = es[i] :: es.drop (i + 1) := List.drop_eq_getElem_cons h
      generalize es[i] = e at hge hF hdrop
      obtain ⟨lb, hb, hc⟩ := (hl.pre hM.pre).cell hge
      have c0 := hc 0 (by decide); have c1 := hc 1 (by decide); have c2 := hc 2 (by decide); have c3 := hc 3 (by decide); have c4 := hc 4 (by decide)
      change Heap.cell? σ lb (l.o + i * 5 + 0) = some (AVal.int .i64 e.t) at c0
      change Heap.cell? σ lb (l.o + i * 5 + 1) = some (AVal.int .i64 e.k) at c1
      change Heap.cell? σ lb (l.o + i * 5 + 2) = some (AVal.str e.s) at c2
      change Heap.cell? σ lb (l.o + i * 5 + 3) = some (AVal.int .i64 e.w) at c3
      change Heap.cell? σ lb (l.o + i * 5 + 4) = some (AVal.int .i64 e.h) at c4
      rw [Nat.add_zero] at c0
      have hpσ : GP σ := hp.pre hM.pre
      obtain ⟨n, hnt⟩ : ∃ n : Nat, e.t = (n : Int) := ⟨e.t.toNat, by have := hF.t0; omega⟩
      have hn1 : n < 9223372036854775808 := by have := hF.t1; omega
      have ht := timeL_len hn1
      obtain ⟨s1, s2⟩ := sgn_ex hF.k0 hF.k1
      have hq := quoteB_len e.text
      have htx := text_len hF
      have hsg : (sgn e.k).length = 1 := rfl
      have hline : lineL e = 91 :: (timeL n ++ ([44, 32, 34] ++ (sgn e.k ++ ([34, 44, 32] ++ (quoteB e.text ++ [93, 10]))))) := by unfold lineL; rw [hnt, Int.toNat_natCast]
      have hll := line_len hF
      obtain ⟨σ2, w1, w2⟩ := w_WriteString_eq hM.bld (ba (lineL e)) (by rw [ba_size]; omega)
      rw [ba_data] at w2
      obtain ⟨σ3, r1, r2⟩ := Export_loop (L := L) (K := K) hl hf hp hn m (i + 1) σ2 (xs ++ lineL e) (by omega) (by omega) (hM.wrt w2) (by rw [List.length_append]; omega)
      refine ⟨σ3, r1, ?_⟩
      rw [lt_true h, cond_true, dec0, Bool.true_and, cond_true, hb, Option.bind_some, Int.toNat_natCast, c0, c1, c2, c3, c4]
      simp only [int?, str?, beq_self_eq_true, cond_true, Option.bind_some, if_true]
      have l1 : (⟨#[91]⟩ : ByteArray) = ba [91] := rfl
      have l2 : (⟨#[44, 32, 34]⟩ : ByteArray) = ba [44, 32, 34] := rfl
      have l3 : (⟨#[34, 44, 32]⟩ : ByteArray) = ba [34, 44, 32] := rfl
      have l4 : (⟨#[93, 10]⟩ : ByteArray) = ba [93, 10] := rfl
      have l5 : (⟨#[120]⟩ : ByteArray) = ba [120] := rfl
      have hT : w_json_Time e.t σ.frz = some (ba (timeL n), σ.frz) := by rw [hnt]; exact w_json_Time_eq hpσ.frz hn1
      have hQ : w_json_Quote e.text σ.frz = some (ba (quoteB e.text), σ.frz) := w_json_Quote_eq (by omega)
      have hI : ∀ n, I64 n → w_strconv_Itoa n σ.frz = some (ba (Lib.itoa n), σ.frz) := fun n hn => w_strconv_Itoa_eq hpσ.frz hn
      have e1 := hI e.w hF.w
      have e2 := hI e.h hF.h
      have b1 := itoa_len hF.w
      have b2 := itoa_len hF.h
      have hnext : IntKind.i64.wrap ((i : Int) + 1) = ((i + 1 : Nat) : Int) := wrap_i64_succ i (by omega)
      have hfin : ba (xs ++ lineL e ++ List.flatMap lineL (List.drop (i + 1) es)) = ba (xs ++ List.flatMap lineL (List.drop i es)) := by rw [hdrop, List.flatMap_cons, List.append_assoc]
      have hend : [91] ++ timeL n ++ [44, 32, 34] ++ sgn e.k ++ [34, 44, 32] ++ quoteB e.text ++ [93, 10] = lineL e := by
        rw [hline]
        simp only [List.append_assoc, List.cons_append, List.nil_append]
      rw [hfin] at r2
      by_cases hk : e.k = 2
      · have htext : ba (Lib.itoa e.w ++ [120] ++ Lib.itoa e.h) = e.text := by
          unfold Ev.text
          rw [hk, beq_self_eq_true, cond_true, List.append_assoc]
          rfl
        rw [show (e.k == 2) = true by rw [hk]; rfl, cond_true]
        simp only [e1, e2, hT, Option.bind_some, frz_frz', s1, s2, cond_true, l1, l2, l3, l4, l5, ba_append, ba_size, htext, hQ]
        iterate 8 rw [if_pos (by simp only [List.length_append, List.length_cons, List.length_nil]; omega)]
        rw [hend, w1, Option.bind_some, hnext]
        exact r2
      · have htext : e.s = e.text := by
          unfold Ev.text
          rw [show (e.k == 2) = false from beq_eq_false_iff_ne.2 hk, cond_false]
        rw [show (e.k == 2) = false from beq_eq_false_iff_ne.2 hk, cond_false]
        simp only [hT, Option.bind_some, frz_frz', s1, s2, cond_true, l1, l2, l3, l4, l5, ba_append, ba_size, htext, hQ]
        iterate 6 rw [if_pos (by simp only [List.length_append, List.length_cons, List.length_nil]; omega)]
        rw [hend, w1, Option.bind_some, hnext]
        exact r2
    · obtain ⟨σ', w1, w2, w3⟩ := w_BString_eq hM.bld (by omega)
      refine ⟨σ', fun c hc => ?_, ?_⟩
      · rw [w3 c (by have := hM.len; omega) (fun e => by have := hM.buf c e; omega)]
        exact hM.old c hc
      · rw [lt_false h, cond_false, w1, Option.bind_some, List.drop_of_length_le (by omega), List.flatMap_nil, List.append_nil]
end Go.Abs.TB
namespace Go.Abs.TB
open Go Go.Abs Go.Proofs

/-! ### Export -/
def ExpP (w h : Int) (l : Sl) (σ : Heap) (es : List Ev) : Prop := GP σ ∧ I64 w ∧ I64 h ∧ l.Is eEv σ es ∧ es.length ≤ 1000 ∧ ∀ e ∈ es, e.Fit
noncomputable def w_cast_Export (w h : Int) (l : Sl) (σ : Heap) : Option (ByteArray × Heap) := wOf (ExpP w h l σ) fun es => (ba (exportL w h es), σ)
theorem w_cast_Export_eq {w h : Int} {l : Sl} {σ : Heap} {es : List Ev} (hp : ExpP w h l σ es) : w_cast_Export w h l σ = some (ba (exportL w h es), σ) := wOf_eq hp fun es' h' => by rw [h'.2.2.2.1.uniq (by decide) hp.2.2.2.1]
theorem head_lit {w h : Int} : [123, 34, 118, 101, 114, 115, 105, 111, 110, 34, 58, 32, 50, 44, 32, 34, 119, 105, 100, 116, 104, 34, 58, 32] ++ Lib.itoa w ++ [44, 32, 34, 104, 101, 105, 103, 104, 116, 34, 58, 32] ++ Lib.itoa h ++ [125, 10] = headL w h := by
  unfold headL
  simp only [List.append_assoc]
theorem ok_cast_Export : Ok_cast_Export w_cast_Export := fun wd ht l σ v σ' hx => by
  obtain ⟨es, ⟨hp, hw, hh, hl, hn, hf⟩, e⟩ := wOf_some hx
  injection e with e1 e2
  subst e1; subst e2
  have q3 : c_cast_Export.strings_Builder_WriteString = w_strings_Builder_WriteString := rfl
  have q4 : c_cast_Export.strconv_Itoa = w_strconv_Itoa := rfl
  have hlen : (σ ++ [Blk.row [.ptr none, .slice none 0 0 1] .rw] ++ [Blk.tys σ.length 51 2]).length = σ.length + 2 := by simp
  have hrow : (σ ++ [Blk.row [.ptr none, .slice none 0 0 1] .rw] ++ [Blk.tys σ.length 51 2])[σ.length]? = some (.row [.ptr none, .slice none 0 0 1] .rw) := by
    rw [List.append_assoc, List.getElem?_append_right (Nat.le_refl _), Nat.sub_self]; rfl
  have hpre : σ <+: σ ++ [Blk.row [.ptr none, .slice none 0 0 1] .rw] ++ [Blk.tys σ.length 51 2] := by rw [List.append_assoc]; exact List.prefix_append ..
  have hB : Bld (σ ++ [Blk.row [.ptr none, .slice none 0 0 1] .rw] ++ [Blk.tys σ.length 51 2]) σ.length [] := ⟨typed_new, _, _, hrow, .inl rfl, .inl ⟨rfl, rfl⟩⟩
  have hM : Made σ σ.length (σ ++ [Blk.row [.ptr none, .slice none 0 0 1] .rw] ++ [Blk.tys σ.length 51 2]) [] := ⟨by omega, fun c hc => get_pre hpre hc, hB, Nat.le_refl _, fun g hg => by
    unfold bufOf at hg
    rw [hrow] at hg
    cases hg⟩
  have l1 : (⟨#[123, 34, 118, 101, 114, 115, 105, 111, 110, 34, 58, 32, 50, 44, 32, 34, 119, 105, 100, 116, 104, 34, 58, 32]⟩ : ByteArray) = ba [123, 34, 118, 101, 114, 115, 105, 111, 110, 34, 58, 32, 50, 44, 32, 34, 119, 105, 100, 116, 104, 34, 58, 32] := rfl
  have l2 : (⟨#[44, 32, 34, 104, 101, 105, 103, 104, 116, 34, 58, 32]⟩ : ByteArray) = ba [44, 32, 34, 104, 101, 105, 103, 104, 116, 34, 58, 32] := rfl
  have l3 : (⟨#[125, 10]⟩ : ByteArray) = ba [125, 10] := rfl
  have b1 := itoa_len hw
  have b2 := itoa_len hh
  have hhl := head_len hw hh
  have core : ∃ σ', callC T (O_cast_Export c_cast_Export) 1001 2 18 [.int .i64 wd, .int .i64 ht, .slice l.b l.o l.n 5] σ (fun v σ => some (v, σ)) = some (.str (ba (exportL wd ht es)), σ') ∧ ∀ c, c < σ.length → σ'[c]? = σ[c]? := by
    rw [cast_Export_eq, q3, q4]
    unfold allocT
    change ∃ σ', ((w_strconv_Itoa wd (σ ++ [Blk.row [.ptr none, .slice none 0 0 1] .rw] ++ [Blk.tys σ.length 51 2])).bind _) = _ ∧ _
    generalize σ ++ [Blk.row [.ptr none, .slice none 0 0 1] .rw] ++ [Blk.tys σ.length 51 2] = σ1 at hlen hrow hpre hB hM
    have hp1 : GP σ1 := hp.pre hpre
    obtain ⟨σ2, w1, w2⟩ := w_WriteString_eq hM.bld (ba (headL wd ht)) (by rw [ba_size]; show 0 + _ ≤ _; omega)
    rw [ba_data, List.nil_append] at w2
    obtain ⟨σ3, r1, r2⟩ := Export_loop (L := 1001) (K := fun v σ => some (v, σ)) hl hf hp hn 1001 0 σ2 (headL wd ht) (by omega) (by omega) (hM.wrt w2) (by omega)
    refine ⟨σ3, ?_, r1⟩
    rw [w_strconv_Itoa_eq hp1 hw, Option.bind_some, w_strconv_Itoa_eq hp1 hh]
    simp only [Option.bind_some, l1, l2, l3, ba_append, ba_size]
    iterate 4 rw [if_pos (by (try simp only [List.length_append, List.length_cons, List.length_nil]); omega)]
    rw [head_lit, w1, Option.bind_some]
    exact r2
  obtain ⟨σ', g1, g2⟩ := core
  exact call_gc0 (call_ok ok (K_cast_Export c_cast_Export ok_json_Quote ok_json_Time ok_strings_Builder_WriteString ok_strconv_Itoa ok_strings_Builder_String) g1) g2 trivial
/-! ### write -/
noncomputable def c_law17_write : C_law17_write := { json_Quote := w_json_Quote, json_Time := w_json_Time, strconv_Itoa := w_strconv_Itoa }
theorem write_loop {R : Type} {L : Nat} {l : Sl} {σ : Heap} {K : AVal → Heap → Option R} {es : List Ev} (hl : l.Is eEv σ es) (hf : ∀ e ∈ es, e.Fit) (hp : GP σ) (hn : es.length ≤ 1000) :
    ∀ (m i : Nat) (xs : List UInt8), es.length - i < m → i ≤ es.length → xs.length ≤ 1000 + 7000 * i →
      law17_write_L3 c_law17_write L m (ba xs) l (i : Int) σ K = K (.str (ba (xs ++ (es.drop i).flatMap lineL))) σ
  | 0, _, _, h, _, _ => by omega
  | m + 1, i, xs, hm, hi, hx => by
    have q1 : c_law17_write.json_Quote = w_json_Quote := rfl
    have q2 : c_law17_write.json_Time = w_json_Time := rfl
    have q4 : c_law17_write.strconv_Itoa = w_strconv_Itoa := rfl
    rw [law17_write_L3_eq, q1, q2, q4, hl.n]
    by_cases h : i < es.length
    · have hge : es[i]? = some es[i] := List.getElem?_eq_getElem h
      have hF := hf es[i] (List.getElem_mem h)
      have hdrop : es.drop i = es[i] :: es.drop (i + 1) := List.drop_eq_getElem_cons h
      generalize es[i] = e at hge hF hdrop
      obtain ⟨lb, hb, hc⟩ := hl.cell hge
      have c0 := hc 0 (by decide); have c1 := hc 1 (by decide); have c2 := hc 2 (by decide); have c3 := hc 3 (by decide); have c4 := hc 4 (by decide)
      change Heap.cell? σ lb (l.o + i * 5 + 0) = some (AVal.int .i64 e.t) at c0
      change Heap.cell? σ lb (l.o + i * 5 + 1) = some (AVal.int .i64 e.k) at c1
      change Heap.cell? σ lb (l.o + i * 5 + 2) = some (AVal.str e.s) at c2
      change Heap.cell? σ lb (l.o + i * 5 + 3) = some (AVal.int .i64 e.w) at c3
      change Heap.cell? σ lb (l.o + i * 5 + 4) = some (AVal.int .i64 e.h) at c4
      rw [Nat.add_zero] at c0
      obtain ⟨n, hnt⟩ : ∃ n : Nat, e.t = (n : Int) := ⟨e.t.toNat, by have := hF.t0; omega⟩
      have hn1 : n < 9223372036854775808 := by have := hF.t1; omega
      have ht := timeL_len hn1
      have hq := quoteB_len e.text
      have htx := text_len hF
      have hsg : (sgn e.k).length = 1 := rfl
      have hline : lineL e = 91 :: (timeL n ++ ([44, 32, 34] ++ (sgn e.k ++ ([34, 44, 32] ++ (quoteB e.text ++ [93, 10]))))) := by unfold lineL; rw [hnt, Int.toNat_natCast]
      have hll := line_len hF
      have r2 := write_loop (L := L) (K := K) hl hf hp hn m (i + 1) (xs ++ lineL e) (by omega) (by omega) (by rw [List.length_append]; omega)
      rw [lt_true h, cond_true, dec0, Bool.true_and, cond_true, hb, Option.bind_some, Int.toNat_natCast, c0, c1, c2, c3, c4]
      simp only [int?, str?, Option.bind_some, if_true]
      have l1 : (⟨#[91]⟩ : ByteArray) = ba [91] := rfl
      have l2 : (⟨#[44, 32, 34]⟩ : ByteArray) = ba [44, 32, 34] := rfl
      have l3 : (⟨#[34, 44, 32]⟩ : ByteArray) = ba [34, 44, 32] := rfl
      have l4 : (⟨#[93, 10]⟩ : ByteArray) = ba [93, 10] := rfl
      have l5 : (⟨#[120]⟩ : ByteArray) = ba [120] := rfl
      have hT : w_json_Time e.t σ = some (ba (timeL n), σ) := by rw [hnt]; exact w_json_Time_eq hp hn1
      have hQ : w_json_Quote e.text σ = some (ba (quoteB e.text), σ) := w_json_Quote_eq (by omega)
      have hI : ∀ n, I64 n → w_strconv_Itoa n σ.frz = some (ba (Lib.itoa n), σ.frz) := fun n hn => w_strconv_Itoa_eq hp.frz hn
      have e1 := hI e.w hF.w
      have e2 := hI e.h hF.h
      have b1 := itoa_len hF.w
      have b2 := itoa_len hF.h
      have hnext : IntKind.i64.wrap ((i : Int) + 1) = ((i + 1 : Nat) : Int) := wrap_i64_succ i (by omega)
      have hfin : ba (xs ++ lineL e ++ List.flatMap lineL (List.drop (i + 1) es)) = ba (xs ++ List.flatMap lineL (List.drop i es)) := by rw [hdrop, List.flatMap_cons, List.append_assoc]
      have hend : [91] ++ timeL n ++ [44, 32, 34] ++ sgn e.k ++ [34, 44, 32] ++ quoteB e.text ++ [93, 10] = lineL e := by
        rw [hline]
        simp only [List.append_assoc, List.cons_append, List.nil_append]
      rw [hfin] at r2
      by_cases hk : e.k = 2
      · have htext : ba (Lib.itoa e.w ++ [120] ++ Lib.itoa e.h) = e.text := by
          unfold Ev.text
          rw [hk, beq_self_eq_true, cond_true, List.append_assoc]
          rfl
        have l8 : (⟨#[114]⟩ : ByteArray) = ba (sgn e.k) := by rw [hk]; rfl
        rw [show (e.k == 1) = false by rw [hk]; rfl, show (e.k == 2) = true by rw [hk]; rfl, cond_false, cond_true]
        simp only [e1, e2, hT, Option.bind_some, frz_frz', l1, l2, l3, l4, l5, l8, ba_append, ba_size, htext, hQ, hend]
        iterate 9 rw [if_pos (by (try simp only [List.length_append, List.length_cons, List.length_nil]); omega)]
        rw [hnext]
        exact r2
      · have htext : e.s = e.text := by
          unfold Ev.text
          rw [show (e.k == 2) = false from beq_eq_false_iff_ne.2 hk, cond_false]
        have : e.k = 0 ∨ e.k = 1 ∨ e.k = 3 := by have := hF.k0; have := hF.k1; omega
        rcases this with h1 | h1 | h1
        · have l6 : (⟨#[111]⟩ : ByteArray) = ba (sgn e.k) := by rw [h1]; rfl
          rw [show (e.k == 1) = false by rw [h1]; rfl, show (e.k == 2) = false by rw [h1]; rfl, show (e.k == 3) = false by rw [h1]; rfl, cond_false, cond_false, cond_false]
          simp only [hT, Option.bind_some, l1, l2, l3, l4, l6, ba_append, ba_size, htext, hQ, hend]
          iterate 7 rw [if_pos (by (try simp only [List.length_append, List.length_cons, List.length_nil]); omega)]
          rw [hnext]
          exact r2
        · have l7 : (⟨#[105]⟩ : ByteArray) = ba (sgn e.k) := by rw [h1]; rfl
          rw [show (e.k == 1) = true by rw [h1]; rfl, cond_true]
          simp only [hT, Option.bind_some, l1, l2, l3, l4, l7, ba_append, ba_size, htext, hQ, hend]
          iterate 7 rw [if_pos (by (try simp only [List.length_append, List.length_cons, List.length_nil]); omega)]
          rw [hnext]
          exact r2
        · have l9 : (⟨#[109]⟩ : ByteArray) = ba (sgn e.k) := by rw [h1]; rfl
          rw [show (e.k == 1) = false by rw [h1]; rfl, show (e.k == 2) = false by rw [h1]; rfl, show (e.k == 3) = true by rw [h1]; rfl, cond_false, cond_false, cond_true]
          simp only [hT, Option.bind_some, l1, l2, l3, l4, l9, ba_append, ba_size, htext, hQ, hend]
          iterate 7 rw [if_pos (by (try simp only [List.length_append, List.length_cons, List.length_nil]); omega)]
          rw [hnext]
          exact r2
    · rw [lt_false h, cond_false, List.drop_of_length_le (by omega), List.flatMap_nil, List.append_nil]
noncomputable def w_law17_write (w h : Int) (l : Sl) (σ : Heap) : Option (ByteArray × Heap) := wOf (ExpP w h l σ) fun es => (ba (exportL w h es), σ)
theorem w_law17_write_eq {w h : Int} {l : Sl} {σ : Heap} {es : List Ev} (hp : ExpP w h l σ es) : w_law17_write w h l σ = some (ba (exportL w h es), σ) := w_cast_Export_eq hp
theorem ok_law17_write : Ok_law17_write w_law17_write := fun wd ht l σ v σ' hx => by
  obtain ⟨es, ⟨hp, hw, hh, hl, hn, hf⟩, e⟩ := wOf_some hx
  injection e with e1 e2
  subst e1; subst e2
  have q4 : c_law17_write.strconv_Itoa = w_strconv_Itoa := rfl
  have l1 : (⟨#[123, 34, 118, 101, 114, 115, 105, 111, 110, 34, 58, 32, 50, 44, 32, 34, 119, 105, 100, 116, 104, 34, 58, 32]⟩ : ByteArray) = ba [123, 34, 118, 101, 114, 115, 105, 111, 110, 34, 58, 32, 50, 44, 32, 34, 119, 105, 100, 116, 104, 34, 58, 32] := rfl
  have l2 : (⟨#[44, 32, 34, 104, 101, 105, 103, 104, 116, 34, 58, 32]⟩ : ByteArray) = ba [44, 32, 34, 104, 101, 105, 103, 104, 116, 34, 58, 32] := rfl
  have l3 : (⟨#[125, 10]⟩ : ByteArray) = ba [125, 10] := rfl
  have b1 := itoa_len hw
  have b2 := itoa_len hh
  have hhl := head_len hw hh
  refine call_ok ok (K_law17_write c_law17_write ok_json_Quote ok_json_Time ok_strconv_Itoa) (L := 1001) (n := 2) ((law17_write_eq c_law17_write 1001 wd ht l σ _).trans ?_)
  rw [q4, w_strconv_Itoa_eq hp hw, Option.bind_some, w_strconv_Itoa_eq hp hh]
  simp only [Option.bind_some, l1, l2, l3, ba_append, ba_size]
  iterate 4 rw [if_pos (by (try simp only [List.length_append, List.length_cons, List.length_nil]); omega)]
  rw [head_lit]
  exact write_loop (L := 1001) (K := fun v σ => some (v, σ)) hl hf hp hn 1001 0 (headL wd ht) (by omega) (by omega) (by omega)
end Go.Abs.TB
namespace Go.Abs.TB
open Go Go.Abs Go.Proofs

/-! ### Tame -/
def msk (x m : Int) : Int := IntKind.i64.wrap (BitVec.ofInt IntKind.i64.bits x &&& BitVec.ofInt IntKind.i64.bits m).toNat
theorem msk_nat (x : Int) {m : Nat} (hm : m < 9223372036854775808) : ∃ u : Nat, u ≤ m ∧ msk x (m : Int) = (u : Int) := by
  have h : (BitVec.ofInt IntKind.i64.bits x &&& BitVec.ofInt IntKind.i64.bits (m : Int)).toNat ≤ m := by
    rw [BitVec.toNat_and]
    refine Nat.le_trans Nat.and_le_right ?_
    rw [BitVec.toNat_ofInt]
    show ((m : Int) % (2 ^ 64 : Nat)).toNat ≤ m
    omega
  exact ⟨_, h, wrap_nat (by omega)⟩
def cut (s : ByteArray) : ByteArray := if s.size > 400 then s.extract 0 400 else s
def tameE (t : Int) (e : Ev) : Ev :=
  if msk e.k 3 = 2 then ⟨t, msk e.k 3, ⟨#[]⟩, IntKind.i64.wrap (msk e.w 127 + 1), IntKind.i64.wrap (msk e.h 127 + 1)⟩
  else ⟨t, msk e.k 3, cut e.s, 0, 0⟩
def tameL : Int → List Ev → List Ev
  | _, [] => []
  | t, e :: es => tameE (IntKind.i64.wrap (t + msk e.t 65535)) e :: tameL (IntKind.i64.wrap (t + msk e.t 65535)) es
theorem tameL_len : ∀ (es : List Ev) (t : Int), (tameL t es).length = es.length
  | [], _ => rfl
  | _ :: es, t => by simp [tameL, tameL_len es]
theorem cut_size (s : ByteArray) : (cut s).size ≤ 400 := by
  unfold cut
  split
  · rw [ByteArray.size_extract]; omega
  · omega
/-- What Tame makes. -/
structure Ev.Tame (e : Ev) : Prop where
  t0 : 0 ≤ e.t
  t1 : e.t ≤ 65535000
  k0 : 0 ≤ e.k
  k1 : e.k < 4
  s : e.s.size ≤ 400
  s2 : e.k = 2 → e.s = ⟨#[]⟩
  w : 0 ≤ e.w ∧ e.w ≤ 128
  h : 0 ≤ e.h ∧ e.h ≤ 128
  wh : (e.k = 2 → 1 ≤ e.w ∧ 1 ≤ e.h) ∧ (e.k ≠ 2 → e.w = 0 ∧ e.h = 0)
theorem Ev.Tame.fit {e : Ev} (h : e.Tame) : e.Fit := ⟨h.t0, by have := h.t1; omega, h.k0, h.k1, by have := h.s; omega, by have := h.w; constructor <;> omega, by have := h.h; constructor <;> omega⟩
theorem tameE_tame {t : Int} (h0 : 0 ≤ t) (h1 : t ≤ 65535000) (e : Ev) : (tameE t e).Tame := by
  obtain ⟨k, hk, ek⟩ := msk_nat e.k (m := 3) (by decide)
  obtain ⟨w, hw, ew⟩ := msk_nat e.w (m := 127) (by decide)
  obtain ⟨h, hh, eh⟩ := msk_nat e.h (m := 127) (by decide)
  change msk e.k 3 = _ at ek
  change msk e.w 127 = _ at ew
  change msk e.h 127 = _ at eh
  have w1 := wrap_i64_succ w (by omega)
  have h2 := wrap_i64_succ h (by omega)
  unfold tameE
  rw [ek, ew, eh, w1, h2]
  have hc := cut_size e.s
  split
  · rename_i e2
    exact ⟨h0, h1, by show (0 : Int) ≤ k; omega, by show (k : Int) < 4; omega, Nat.zero_le _, fun _ => rfl, ⟨by show (0 : Int) ≤ (w + 1 : Nat); omega, by show ((w + 1 : Nat) : Int) ≤ 128; omega⟩, ⟨by show (0 : Int) ≤ (h + 1 : Nat); omega, by show ((h + 1 : Nat) : Int) ≤ 128; omega⟩,
      fun _ => ⟨by show (1 : Int) ≤ (w + 1 : Nat); omega, by show (1 : Int) ≤ (h + 1 : Nat); omega⟩, fun hn => absurd e2 hn⟩
  · rename_i e2
    exact ⟨h0, h1, by show (0 : Int) ≤ k; omega, by show (k : Int) < 4; omega, hc, fun hn => absurd hn e2, ⟨by show (0 : Int) ≤ 0; omega, by show (0 : Int) ≤ 128; omega⟩, ⟨by show (0 : Int) ≤ 0; omega, by show (0 : Int) ≤ 128; omega⟩, fun hn => absurd hn e2, fun _ => ⟨rfl, rfl⟩⟩
theorem tame_t {t : Int} {i : Nat} (h0 : 0 ≤ t) (h1 : t ≤ 65535 * i) (hi : i < 1000) (x : Int) : 0 ≤ IntKind.i64.wrap (t + msk x 65535) ∧ IntKind.i64.wrap (t + msk x 65535) ≤ 65535 * (i + 1 : Nat) := by
  obtain ⟨u, hu, eu⟩ := msk_nat x (m := 65535) (by decide)
  change msk x 65535 = _ at eu
  rw [eu, wrap_i64_of (by omega) (by omega)]
  constructor <;> omega
theorem tameL_tame : ∀ (es : List Ev) (t : Int) (i : Nat), 0 ≤ t → t ≤ 65535 * i → i + es.length ≤ 1000 → ∀ e ∈ tameL t es, e.Tame
  | [], _, _, _, _, _, _, h => by cases h
  | x :: es, t, i, h0, h1, h2, e, he => by
    rw [List.length_cons] at h2
    have := tame_t h0 h1 (by omega) x.t
    rw [tameL, List.mem_cons] at he
    rcases he with rfl | he
    · exact tameE_tame this.1 (by omega) x
    · exact tameL_tame es _ (i + 1) this.1 this.2 (by omega) e he
theorem Tame_loop {R : Type} {L : Nat} {l : Sl} {σ0 : Heap} {K : AVal → Heap → Option R} {es : List Ev} (hl : l.Is eEv σ0 es) (hn : es.length ≤ 1000) :
    ∀ (m i : Nat) (t : Int) (out : Sl) (σ : Heap) (ys : List Ev), es.length - i < m → i ≤ es.length → ys.length = i → Mine eEv σ0 out σ ys →
      ∃ σ' out', Mine eEv σ0 out' σ' (ys ++ tameL t (es.drop i)) ∧ ref12_Tame_L4 L m l out t (i : Int) σ K = K (.slice out'.b out'.o out'.n 5) σ'
  | 0, _, _, _, _, _, h, _, _, _ => by omega
  | m + 1, i, t, out, σ, ys, hm, hi, hy, hM => by
    rw [ref12_Tame_L4_eq, hl.n]
    by_cases h : i < es.length
    · have hge : es[i]? = some es[i] := List.getElem?_eq_getElem h
      have hdrop : es.drop i = es[i] :: es.drop (i + 1) := List.drop_eq_getElem_cons h
      generalize es[i] = e at hge hdrop
      obtain ⟨lb, hb, hc⟩ := (hl.pre hM.pre).cell hge
      have c0 := hc 0 (by decide); have c1 := hc 1 (by decide); have c2 := hc 2 (by decide); have c3 := hc 3 (by decide); have c4 := hc 4 (by decide)
      change Heap.cell? σ lb (l.o + i * 5 + 0) = some (AVal.int .i64 e.t) at c0
      change Heap.cell? σ lb (l.o + i * 5 + 1) = some (AVal.int .i64 e.k) at c1
      change Heap.cell? σ lb (l.o + i * 5 + 2) = some (AVal.str e.s) at c2
      change Heap.cell? σ lb (l.o + i * 5 + 3) = some (AVal.int .i64 e.w) at c3
      change Heap.cell? σ lb (l.o + i * 5 + 4) = some (AVal.int .i64 e.h) at c4
      rw [Nat.add_zero] at c0
      have hnext : IntKind.i64.wrap ((i : Int) + 1) = ((i + 1 : Nat) : Int) := wrap_i64_succ i (by omega)
      have step : ∀ e', tameE (IntKind.i64.wrap (t + msk e.t 65535)) e = e' → ∃ σ' out', Mine eEv σ0 out' σ' (ys ++ tameL t (es.drop i)) ∧ ((Heap.append σ out.b out.o out.n 5 48 (eEv.en e') 1).bind fun q => ref12_Tame_L4 L m l ⟨q.1.1, q.1.2.1, q.1.2.2⟩ (IntKind.i64.wrap (t + msk e.t 65535)) ((i + 1 : Nat) : Int) q.2 K) = K (.slice out'.b out'.o out'.n 5) σ' := fun e' he' => by
        obtain ⟨q, σ1, a1, a2⟩ := hM.append (zs := [e']) (bytes := 48) (vs := eEv.en e') (k := 1) (by rw [El.all_cons, El.all_nil, List.append_nil]) rfl (by simp only [List.length_singleton]; omega) (by simp only [List.length_singleton]; omega)
        obtain ⟨σ2, out2, r1, r2⟩ := Tame_loop (L := L) (K := K) hl hn m (i + 1) (IntKind.i64.wrap (t + msk e.t 65535)) _ _ _ (by omega) (by omega) (by rw [List.length_append, hy]; rfl) a2
        refine ⟨σ2, out2, ?_, ?_⟩
        · rw [hdrop, tameL, he']
          rw [List.append_assoc] at r1
          exact r1
        · rw [show Heap.append σ out.b out.o out.n 5 48 (eEv.en e') 1 = some (q, σ1) from a1, Option.bind_some]
          exact r2
      rw [lt_true h, cond_true, dec0, Bool.true_and, cond_true, hb, Option.bind_some, Int.toNat_natCast, c0, c1, c2, c3, c4]
      simp only [int?, str?, Option.bind_some, if_true, hnext]
      by_cases hs : e.s.size > 400
      · rw [decide_eq_true (show (e.s.size : Int) > 400 by omega), cond_true, decide_eq_true (show (400 : Int) ≤ (e.s.size : Int) by omega), cond_true]
        by_cases hk : msk e.k 3 = 2
        · obtain ⟨σ', out', g1, g2⟩ := step _ (by unfold tameE; rw [if_pos hk])
          exact ⟨σ', out', g1, by rw [show ((IntKind.i64.wrap (BitVec.ofInt IntKind.i64.bits e.k &&& BitVec.ofInt IntKind.i64.bits 3).toNat) == 2) = true from beq_iff_eq.2 hk, cond_true]; exact g2⟩
        · obtain ⟨σ', out', g1, g2⟩ := step _ (by unfold tameE; rw [if_neg hk, cut, if_pos hs])
          exact ⟨σ', out', g1, by rw [show ((IntKind.i64.wrap (BitVec.ofInt IntKind.i64.bits e.k &&& BitVec.ofInt IntKind.i64.bits 3).toNat) == 2) = false from beq_eq_false_iff_ne.2 hk, cond_false]; exact g2⟩
      · rw [decide_eq_false (show ¬ (e.s.size : Int) > 400 by omega), cond_false]
        by_cases hk : msk e.k 3 = 2
        · obtain ⟨σ', out', g1, g2⟩ := step _ (by unfold tameE; rw [if_pos hk])
          exact ⟨σ', out', g1, by rw [show ((IntKind.i64.wrap (BitVec.ofInt IntKind.i64.bits e.k &&& BitVec.ofInt IntKind.i64.bits 3).toNat) == 2) = true from beq_iff_eq.2 hk, cond_true]; exact g2⟩
        · obtain ⟨σ', out', g1, g2⟩ := step _ (by unfold tameE; rw [if_neg hk, cut, if_neg hs])
          exact ⟨σ', out', g1, by rw [show ((IntKind.i64.wrap (BitVec.ofInt IntKind.i64.bits e.k &&& BitVec.ofInt IntKind.i64.bits 3).toNat) == 2) = false from beq_eq_false_iff_ne.2 hk, cond_false]; exact g2⟩
    · refine ⟨σ, out, ?_, by rw [lt_false h, cond_false]⟩
      rw [List.drop_of_length_le (by omega), tameL, List.append_nil]
      exact hM
noncomputable def w_ref12_Tame (l : Sl) (σ : Heap) : Option (Sl × Heap) := wOf (fun es : List Ev => l.Is eEv σ es ∧ es.length ≤ 1000) fun es => fresh eEv σ es.isEmpty (tameL 0 es)
theorem w_ref12_Tame_eq {l : Sl} {σ : Heap} {es : List Ev} (h : l.Is eEv σ es) (hn : es.length ≤ 1000) : w_ref12_Tame l σ = some (fresh eEv σ es.isEmpty (tameL 0 es)) := wOf_eq (P := fun es : List Ev => l.Is eEv σ es ∧ es.length ≤ 1000) (f := fun es => fresh eEv σ es.isEmpty (tameL 0 es)) ⟨h, hn⟩ fun es' h' => by rw [h'.1.uniq (by decide) h]
theorem ok_ref12_Tame : Ok_ref12_Tame w_ref12_Tame := fun l σ v σ' hx => by
  obtain ⟨es, ⟨hl, hn⟩, e⟩ := wOf_some hx
  have e1 : v = (fresh eEv σ es.isEmpty (tameL 0 es)).1 := by rw [e]
  have e2 : σ' = (fresh eEv σ es.isEmpty (tameL 0 es)).2 := by rw [e]
  subst e1; subst e2
  obtain ⟨σ1, out, g1, g2⟩ := Tame_loop (L := 1001) (K := fun v σ => some (v, σ)) hl hn 1001 0 0 ⟨none, 0, 0⟩ σ [] (by omega) (by omega) rfl (Mine.start σ)
  have hc := call_ok ok known0_ok (L := 1001) (n := 2) ((ref12_Tame_eq 1001 l σ _).trans g2)
  rw [List.drop_zero, List.nil_append] at g1
  cases es with
  | nil =>
    have g3 : ref12_Tame_L4 1001 1001 l ⟨none, 0, 0⟩ 0 ((0 : Nat) : Int) σ (fun v σ => some (v, σ)) = some (.slice none 0 0 5, σ) := by rw [ref12_Tame_L4_eq, hl.n]; rfl
    exact call_mine (out := ⟨none, 0, 0⟩) (call_ok ok known0_ok (L := 1001) (n := 2) ((ref12_Tame_eq 1001 l σ _).trans g3)) (Mine.start σ) rfl
  | cons x es => exact call_mine hc g1 (Own.some_of_ne g1.own (by rw [tameL]; simp)).symm
/-! ### fit -/
def fitE : Ev := ⟨1, 2, ⟨#[]⟩, 80, 24⟩
noncomputable def c_law17_fit : C_law17_fit := { cast_Export := w_cast_Export }
noncomputable def w_law17_fit (σ : Heap) : Option (Bool × Heap) := wIf (GP σ) (true, σ)
theorem w_law17_fit_eq {σ : Heap} (h : GP σ) : w_law17_fit σ = some (true, σ) := wIf_eq h
def fitL : List UInt8 := [123, 34, 118, 101, 114, 115, 105, 111, 110, 34, 58, 32, 50, 44, 32, 34, 119, 105, 100, 116, 104, 34, 58, 32, 49, 44, 32, 34, 104, 101, 105, 103, 104, 116, 34, 58, 32, 50, 125, 10, 91, 48, 46, 48, 48, 48, 48, 48, 49, 44, 32, 34, 114, 34, 44, 32, 34, 56, 48, 120, 50, 52, 34, 93, 10]
theorem fit_text : exportL 1 2 [fitE] = fitL := by decide +kernel
theorem ok_law17_fit : Ok_law17_fit w_law17_fit := fun σ v σ' h => by
  obtain ⟨hp, e⟩ := wIf_some h
  injection e with e1 e2
  subst e1; subst e2
  have q1 : c_law17_fit.cast_Export = w_cast_Export := rfl
  have hpre : σ <+: σ ++ [.row (eEv.all [fitE]) .rw] := pre_push ..
  have hI : Sl.Is ⟨some σ.length, 0, 1⟩ eEv (σ ++ [.row (eEv.all [fitE]) .rw]) [fitE] := Sl.Is.new (xs := [fitE]) (by decide)
  have hx := w_cast_Export_eq (w := 1) (h := 2) (l := ⟨some σ.length, 0, 1⟩) (σ := σ ++ [.row (eEv.all [fitE]) .rw]) (es := [fitE]) ⟨hp.pre hpre, by constructor <;> decide, by constructor <;> decide, hI, by decide, fun e he => by
    rw [List.mem_singleton] at he
    subst he
    exact ⟨by decide, by decide, by decide, by decide, by decide, by constructor <;> decide, by constructor <;> decide⟩⟩
  refine call_gc0 (call_ok ok (K_law17_fit c_law17_fit ok_cast_Export) (L := 1) (n := 2) (σ' := σ ++ [.row (eEv.all [fitE]) .rw]) ((law17_fit_eq c_law17_fit 1 σ _).trans ?_)) (fun b hb => get_pre hpre hb) trivial
  rw [q1]
  unfold alloc
  change (w_cast_Export 1 2 ⟨some σ.length, 0, 1⟩ (σ ++ [.row (eEv.all [fitE]) .rw])).bind _ = _
  rw [hx, Option.bind_some]
  change some (AVal.bool ((ba (exportL 1 2 [fitE])).toList == (ba fitL).toList), _) = some (AVal.bool true, _)
  rw [ba_toList, ba_toList, fit_text, beq_self_eq_true]
end Go.Abs.TB
