/-
strings.Builder: copyCheck, at the world.
strings.Builder: contracts.
cast.Export: contract.
cast.Export, law17.write, fit, Tame: contracts.
ref12.Tame, law17.fit: contracts; CastWrites, CastLines.
cast's reader: contracts.
cast's reader: one event.
cast.Import: contract.
What is exported comes back.
What comes back was exported.
The reference's list.
-/
import Derived.Test.YtohlebkhlbcnaaaDoorEqB2
import Derived.Lib.Builder
import Derived.WalkKit
import Derived.Test.YtohlebkhlbcnaaaDoorMConP
import Derived.Test.YtohlebkhlbcnaaaDoorMConQ
import Derived.Test.YtohlebkhlbcnaaaDoorMConR
import Derived.Test.YtohlebkhlbcnaaaDoorEqB6
import Derived.Test.YtohlebkhlbcnaaaDoorEqB5
namespace Go.Abs.TB
open Go Go.Abs Go.Proofs Go.RowKit

theorem sizeB : ∃ j, Tryd.prog.info? 51 = some j ∧ j.size ≠ 0 := by
  have h : (Tryd.prog.info? 51).map (·.size) = some 2 := by kernel_rfl
  obtain ⟨j, hj, e⟩ := Option.map_eq_some_iff.1 h
  exact ⟨j, hj, by rw [e]; decide⟩
theorem liesB : liesAt Tryd.prog Tryd.prog.depth 51 (2 / Tryd.prog.cellsOf 51) 0 51 1 = true := by kernel_rfl
set_option maxHeartbeats 1000000 in
set_option maxRecDepth 100000 in
theorem check_used (b : Nat) (w : World) (h0 : w.cell? ⟨b, 0, none⟩ = some (.pointer (some ⟨b, 0, none⟩))) :
    Calls Tryd.prog 42 #[.pointer (some ⟨b, 0, none⟩)] w fun e w' => e = .returned (.tuple #[]) ∧ w' = w := by
  obtain ⟨j, hj, _⟩ := sizeB
  go_enter Tryd.func42, Tryd.ntmps42
  go_wp2
  rw [Lib.run_neq_ptr_same w _ Tryd.underlying49 hj]
  go_wp2
  go_end0
  exact ⟨rfl, rfl⟩
set_option maxHeartbeats 1000000 in
set_option maxRecDepth 100000 in
theorem check_fresh (b : Nat) (w : World) (h0 : w.cell? ⟨b, 0, none⟩ = some (.pointer none)) (hsh : w.shape? b = some (51, 2)) (hfz : w.frozen? ⟨b, 0, none⟩ = false) :
    Calls Tryd.prog 42 #[.pointer (some ⟨b, 0, none⟩)] w fun e w' => e = .returned (.tuple #[]) ∧ w' = w.setCell ⟨b, 0, none⟩ (.pointer (some ⟨b, 0, none⟩)) := by
  obtain ⟨j, hj, hjs⟩ := sizeB
  go_enter Tryd.func42, Tryd.ntmps42
  go_wp2
  rw [Lib.run_to_unsafe w ⟨b, 0, none⟩ Tryd.underlying49 Tryd.underlying78 hj hjs hsh (Nat.zero_lt_succ 1)]
  simp only [Result.andThen]
  rw [Oper.upon_value]
  go_wp2
  rw [run_callFunc_extern Tryd.func53 (by kernel_rfl) (by kernel_rfl) (by kernel_rfl) (e := Extern.AbiNoEscape.same) (by kernel_rfl)]
  rw [Lib.run_noEscape]
  simp only [Result.andThen]
  rw [Oper.upon_value]
  go_wp2
  rw [Lib.run_from_unsafe w ⟨b, 0, none⟩ Tryd.underlying78 Tryd.underlying49 hj hsh liesB]
  simp only [Result.andThen]
  rw [Oper.upon_value]
  go_wp2
  go_end0
  exact ⟨rfl, rfl⟩
end Go.Abs.TB
namespace Go.Abs.TB
open Go Go.Abs Go.Proofs

/-- What a function does is told by a property of what it leaves. -/
noncomputable def wEx {β : Type} (F : FuncId) (args : List AVal) (av : β → AVal) (Q : β → Heap → Prop) (σ : Heap) : Option (β × Heap) :=
  open Classical in if h : ∃ r : β × Heap, CallOK Tryd.prog T F args σ (av r.1) r.2 ∧ Q r.1 r.2 then some h.choose else none
theorem wEx_ok {β : Type} {F : FuncId} {args : List AVal} {av : β → AVal} {Q : β → Heap → Prop} {σ σ' : Heap} {v : β} (h : wEx F args av Q σ = some (v, σ')) : CallOK Tryd.prog T F args σ (av v) σ' := by
  unfold wEx at h
  split at h
  · rename_i hh
    injection h with h
    have := hh.choose_spec.1
    rw [h] at this
    exact this
  · cases h
theorem wEx_ex {β : Type} {F : FuncId} {args : List AVal} {av : β → AVal} {Q : β → Heap → Prop} {σ σ' : Heap} {v : β} (h : CallOK Tryd.prog T F args σ (av v) σ') (hq : Q v σ') : ∃ v' σ2, wEx F args av Q σ = some (v', σ2) ∧ Q v' σ2 := by
  have hh : ∃ r : β × Heap, CallOK Tryd.prog T F args σ (av r.1) r.2 ∧ Q r.1 r.2 := ⟨(v, σ'), h, hq⟩
  refine ⟨hh.choose.1, hh.choose.2, ?_, hh.choose_spec.2⟩
  unfold wEx
  rw [dif_pos hh]
/-! ### Types that are told -/
theorem typed_mono {σ σ' : Heap} {b t sz : Nat} (h : σ.typed b t sz = true) (hs : ∀ x ∈ σ, x.isTys = true → x ∈ σ') : σ'.typed b t sz = true := by
  unfold Heap.typed at h ⊢
  rw [List.any_eq_true] at h ⊢
  obtain ⟨x, hx, h⟩ := h
  refine ⟨x, hs x hx ?_, h⟩
  cases x with
  | tys b t sz => rfl
  | row cs m => cases h
  | map es m => cases h
theorem typed_pre {σ σ' : Heap} {b t sz : Nat} (h : σ.typed b t sz = true) (hp : σ <+: σ') : σ'.typed b t sz = true := typed_mono h fun _ hx _ => hp.subset hx
theorem typed_new {σ : Heap} {b t sz : Nat} : Heap.typed (σ ++ [Blk.tys b t sz]) b t sz = true := by
  unfold Heap.typed
  rw [List.any_eq_true]
  exact ⟨Blk.tys b t sz, List.mem_append_right _ (by simp), by simp⟩
theorem typed_set {σ : Heap} {b t sz c : Nat} {x y : Blk} (h : σ.typed b t sz = true) (hx : σ[c]? = some x) (hn : x.isTys = false) : Heap.typed (σ.set c y) b t sz = true := typed_mono h fun z hz ht => by
  obtain ⟨j, hj⟩ := List.mem_iff_getElem?.1 hz
  have : j ≠ c := fun e => by
    subst e
    rw [hx] at hj
    injection hj with hj
    subst hj
    rw [hn] at ht
    cases ht
  exact List.mem_iff_getElem?.2 ⟨j, by rw [List.getElem?_set_ne (Ne.symm this)]; exact hj⟩
/-! ### copyCheck -/
theorem check_call {σ : Heap} {b : Nat} {a buf : AVal} (hrow : σ[b]? = some (.row [a, buf] .rw)) (ha : (a = .ptr none ∧ σ.typed b 51 2 = true) ∨ a = .ptr (some (b, 0))) (hoff : σ.typed b 51 2 = true) :
    CallOK Tryd.prog T 42 [.ptr (some (b, 0))] σ (.tuple []) (σ.set b (.row [.ptr (some (b, 0)), buf] .rw)) := by
  intro ρ ws w hH hG hw
  simp only [VRels, VRel] at hw
  obtain ⟨v, vs, rfl, ⟨pl, hp, rfl⟩, rfl⟩ := hw
  obtain ⟨j, hj⟩ := typed_get hoff
  obtain ⟨_, q, g1, g2, g3, g4⟩ := hH.tys j _ _ _ hj
  rw [hp] at g1
  injection g1 with g1
  subst g1
  obtain ⟨x, hx, hB⟩ := hH.blk b pl hp
  rw [hrow] at hx
  injection hx with hx
  subst hx
  obtain ⟨c, ty, fr, c1, c2, c3, c4, c5, c6, c7⟩ := hB
  have hsz : c.size = 2 := by rw [c2]; exact g4.resolve_left (by decide)
  obtain ⟨v0, v1, v2⟩ := c4 0 a rfl
  have hL : LRel ρ noL [] σ w := ⟨fun t k h => (by cases h), fun t t' k h => (by cases h), fun t k b pl x h => (by cases h)⟩
  have hcell : w.cell? ⟨pl.blk, 0, none⟩ = some v0 := by
    rw [g3, Nat.add_zero] at v1
    simp [World.cell?, c1, v1]
  have hself : VRel ρ noL (.ptr (some (b, 0))) (.pointer (some ⟨pl.blk, 0, none⟩)) := by
    simp only [VRel]
    exact ⟨pl, hp, by rw [g3]⟩
  have hst : σ.store b 0 [.ptr (some (b, 0))] = some (σ.set b (.row [.ptr (some (b, 0)), buf] .rw)) := by
    unfold Heap.store
    rw [hrow]
    rfl
  rw [g3, Nat.add_zero]
  rcases ha with ⟨rfl, _⟩ | rfl
  · simp only [VRel] at v2
    subst v2
    refine Calls.mono (check_fresh pl.blk w hcell (by simp [World.shape?, c1, c7, g2, hsz]) (by
      have hu := c5 rfl
      simp only [World.frozen?, c1]
      have := hu.2 0 (by omega)
      simp at this ⊢
      omega)) fun e w' ⟨he, hw'⟩ => ?_
    obtain ⟨_, h1, h2, h3⟩ := heap_store (P := Tryd.prog) hH hL hp hst (vs := [.pointer (some ⟨pl.blk, 0, none⟩)]) (by simp only [VRels]; exact ⟨_, _, rfl, hself, rfl⟩) (fun v hv => by simp at hv; subst hv; rfl)
    rw [g3, Nat.add_zero] at h1 h3
    have e : w.setCells pl.blk 0 [.pointer (some ⟨pl.blk, 0, none⟩)] = w' := hw'.symm
    rw [e] at h1 h3
    exact ⟨_, ρ, he, h1, by simp [VRel, VRels], h3⟩
  · simp only [VRel] at v2
    obtain ⟨pl', hp', rfl⟩ := v2
    rw [hp] at hp'
    injection hp' with hp'
    subst hp'
    rw [g3, Nat.add_zero] at hcell
    refine Calls.mono (check_used pl.blk w hcell) fun e w' ⟨he, hw'⟩ => ?_
    subst hw'
    have e : σ.set b (.row [.ptr (some (b, 0)), buf] .rw) = σ := by
      apply List.ext_getElem?
      intro i
      by_cases hi : i = b
      · subst hi
        rw [List.getElem?_set_self (List.getElem?_eq_some_iff.1 hrow).1, hrow]
      · rw [List.getElem?_set_ne (Ne.symm hi)]
    rw [e]
    exact ⟨_, ρ, he, hH, by simp [VRel, VRels], Step.refl ..⟩
noncomputable def w_strings_Builder_copyCheck (p : Pt) (σ : Heap) : Option (Unit × Heap) := wEx 42 [.ptr p] tVoid.av (fun _ σ' => ∀ b a buf, p = some (b, 0) → σ[b]? = some (.row [a, buf] .rw) → σ' = σ.set b (.row [.ptr (some (b, 0)), buf] .rw)) σ
theorem ok_strings_Builder_copyCheck : Ok_strings_Builder_copyCheck w_strings_Builder_copyCheck := fun _ _ _ _ h => wEx_ok h
theorem w_copyCheck_eq {σ : Heap} {b : Nat} {a buf : AVal} (hrow : σ[b]? = some (.row [a, buf] .rw)) (ha : a = .ptr none ∨ a = .ptr (some (b, 0))) (ht : σ.typed b 51 2 = true) :
    w_strings_Builder_copyCheck (some (b, 0)) σ = some ((), σ.set b (.row [.ptr (some (b, 0)), buf] .rw)) := by
  obtain ⟨v', σ2, h1, h2⟩ := wEx_ex (av := tVoid.av) (v := ()) (Q := fun _ σ' => ∀ b' a buf, some (b, 0) = some (b', 0) → σ[b']? = some (.row [a, buf] .rw) → σ' = σ.set b' (.row [.ptr (some (b', 0)), buf] .rw)) (check_call hrow (ha.imp (fun h => ⟨h, ht⟩) id) ht) (fun b' a' buf' e h => by
    injection e with e
    injection e with e _
    subst e
    rw [hrow] at h
    injection h with h
    simp only [Blk.row.injEq, List.cons.injEq, and_true] at h
    rw [h.2])
  unfold w_strings_Builder_copyCheck
  rw [h1, h2 b a buf rfl hrow]
/-! ### A builder in memory -/
/-- The builder's buffer. -/
def bufOf (σ : Heap) (b : Nat) : Option Nat := match σ[b]? with
  | some (.row [_, .slice g _ _ _] _) => g
  | _ => none
/-- A builder in block b. -/
structure Bld (σ : Heap) (b : Nat) (xs : List UInt8) : Prop where
  t : σ.typed b 51 2 = true
  row : ∃ a buf, σ[b]? = some (.row [a, buf] .rw) ∧ (a = .ptr none ∨ a = .ptr (some (b, 0))) ∧
    ((buf = .slice none 0 0 1 ∧ xs = []) ∨ ∃ g, buf = .slice (some g) 0 xs.length 1 ∧ xs ≠ [] ∧ g ≠ b ∧ σ[g]? = some (.row (eU8.all xs) .rw) ∧ σ.typed g 5 0 = true)
theorem Bld.lt {σ : Heap} {b : Nat} {xs : List UInt8} (h : Bld σ b xs) : b < σ.length := by
  obtain ⟨a, buf, e, _⟩ := h.row
  exact (List.getElem?_eq_some_iff.1 e).1
theorem Bld.pre {σ σ' : Heap} {b : Nat} {xs : List UInt8} (h : Bld σ b xs) (hp : σ <+: σ') : Bld σ' b xs := by
  obtain ⟨a, buf, e1, e2, e3⟩ := h.row
  refine ⟨typed_pre h.t hp, a, buf, by rw [get_pre hp h.lt]; exact e1, e2, e3.imp id fun ⟨g, g1, g2, g4, g5, g6⟩ => ⟨g, g1, g2, g4, by rw [get_pre hp (List.getElem?_eq_some_iff.1 g5).1]; exact g5, typed_pre g6 hp⟩⟩
theorem Bld.buf_lt {σ : Heap} {b : Nat} {xs : List UInt8} (h : Bld σ b xs) {g : Nat} (hg : bufOf σ b = some g) : g < σ.length := by
  obtain ⟨a, buf, e1, e2, e3⟩ := h.row
  unfold bufOf at hg
  rw [e1] at hg
  rcases e3 with ⟨rfl, _⟩ | ⟨g', rfl, _, _, g5, _⟩
  · cases hg
  · injection hg with hg
    subst hg
    exact (List.getElem?_eq_some_iff.1 g5).1
theorem Bld.uniq {σ : Heap} {b : Nat} {xs ys : List UInt8} (h : Bld σ b xs) (h' : Bld σ b ys) : xs = ys := by
  obtain ⟨a, buf, e1, _, e2⟩ := h.row
  obtain ⟨a', buf', f1, _, f2⟩ := h'.row
  rw [e1] at f1
  injection f1 with f1
  simp only [Blk.row.injEq, List.cons.injEq, and_true] at f1
  obtain ⟨rfl, rfl⟩ := f1
  rcases e2 with ⟨g1, g2⟩ | ⟨g, g1, g2, g4, g5, g6⟩
  · rcases f2 with ⟨k1, k2⟩ | ⟨k, k1, k2, k4, k5, k6⟩
    · rw [g2, k2]
    · rw [g1] at k1; cases k1
  · rcases f2 with ⟨k1, k2⟩ | ⟨k, k1, k2, k4, k5, k6⟩
    · rw [g1] at k1; cases k1
    · rw [g1] at k1
      simp only [AVal.slice.injEq, Option.some.injEq, true_and, and_true] at k1
      obtain ⟨rfl, _⟩ := k1
      rw [g5] at k5
      injection k5 with k5
      simp only [Blk.row.injEq, and_true] at k5
      exact eU8.all_inj (by decide) k5
/-! ### WriteString -/
noncomputable def c_strings_Builder_WriteString : C_strings_Builder_WriteString := { strings_Builder_copyCheck := w_strings_Builder_copyCheck }
/-- What a write leaves. -/
structure Wrt (σ : Heap) (b : Nat) (ys : List UInt8) (σ' : Heap) : Prop where
  bld : Bld σ' b ys
  len : σ.length ≤ σ'.length
  at_ : ∀ c, c < σ.length → c ≠ b → bufOf σ b ≠ some c → σ'[c]? = σ[c]?
  buf : ∀ g, bufOf σ' b = some g → bufOf σ b = some g ∨ σ.length ≤ g
def QW (p : Pt) (s : ByteArray) (σ : Heap) (r : Int × Er) (σ' : Heap) : Prop := ∀ b xs, p = some (b, 0) → Bld σ b xs → r = ((s.size : Int), ⟨true⟩) ∧ Wrt σ b (xs ++ s.data.toList) σ'
noncomputable def w_strings_Builder_WriteString (p : Pt) (s : ByteArray) (σ : Heap) : Option ((Int × Er) × Heap) := wEx 30 [.ptr p, .str s] (tPair (tInt .i64) tErr).av (QW p s σ) σ
theorem ok_strings_Builder_WriteString : Ok_strings_Builder_WriteString w_strings_Builder_WriteString := fun _ _ _ _ _ h => wEx_ok h
theorem str_cells (s : ByteArray) : (s.data.toList.map fun b => AVal.int .u8 b.toNat).take s.size = eU8.all s.data.toList := by
  have h : s.data.toList.length = s.size := by rw [Array.length_toList]; rfl
  rw [List.take_of_length_le (by rw [List.length_map, h]; exact Nat.le_refl _)]
  generalize s.data.toList = l
  induction l with
  | nil => rfl
  | cons x l ih =>
    rw [List.map_cons, ih, El.all_cons]
    rfl
/-- The buffer grows. -/
theorem buf_grows {σ : Heap} {b : Nat} {buf : AVal} {xs : List UInt8} (hb : b < σ.length) (ht : σ.typed b 51 2 = true) (s : List UInt8) (hl : xs.length + s.length ≤ 70368744177664)
    (h : (buf = .slice none 0 0 1 ∧ xs = []) ∨ ∃ g, buf = .slice (some g) 0 xs.length 1 ∧ xs ≠ [] ∧ g ≠ b ∧ σ[g]? = some (.row (eU8.all xs) .rw) ∧ σ.typed g 5 0 = true) :
    ∃ bo no q σ2, slice? (some buf) 1 = some (bo, 0, no) ∧ Heap.appendT σ bo 0 no 1 1 (eU8.all s) s.length 5 = some (q, σ2) ∧ σ.length ≤ σ2.length ∧ σ2[b]? = σ[b]? ∧ σ2.typed b 51 2 = true ∧
      (∀ c, c < σ.length → bo ≠ some c → σ2[c]? = σ[c]?) ∧
      ((q = (none, 0, 0) ∧ xs ++ s = []) ∨ ∃ g, q = (some g, 0, (xs ++ s).length) ∧ xs ++ s ≠ [] ∧ (bo = some g ∨ σ.length ≤ g) ∧ g ≠ b ∧ σ2[g]? = some (.row (eU8.all (xs ++ s)) .rw) ∧ σ2.typed g 5 0 = true) := by
  have hal : ∀ l : List UInt8, (eU8.all l).length = l.length := fun l => by rw [El.all_len]; show l.length * 1 = _; omega
  have happ : ∀ l m : List UInt8, eU8.all (l ++ m) = eU8.all l ++ eU8.all m := fun l m => El.all_append ..
  rcases h with ⟨rfl, rfl⟩ | ⟨g, rfl, g2, g4, g5, g6⟩
  · by_cases h0 : s = []
    · subst h0
      exact ⟨none, 0, (none, 0, 0), σ, rfl, rfl, Nat.le_refl _, rfl, ht, fun _ _ _ => rfl, .inl ⟨rfl, rfl⟩⟩
    · have hz : s.length ≠ 0 := fun e => h0 (List.eq_nil_of_length_eq_zero e)
      refine ⟨none, 0, (some σ.length, 0, s.length), σ ++ [.row (eU8.all s) .rw] ++ [.tys σ.length 5 0], rfl, ?_, by simp, ?_, ?_, fun c hc _ => ?_, .inr ⟨σ.length, by rw [List.nil_append], by rw [List.nil_append]; exact h0, .inr (Nat.le_refl _), by omega, ?_, typed_new⟩⟩
      · unfold Heap.appendT Heap.append
        simp only [Nat.zero_add, Nat.mul_one]
        rw [if_neg hz, if_pos ⟨by omega, by omega, hal s⟩]
        rfl
      · rw [List.append_assoc, List.getElem?_append_left hb]
      · exact typed_pre ht (by rw [List.append_assoc]; exact List.prefix_append ..)
      · rw [List.append_assoc, List.getElem?_append_left hc]
      · rw [List.nil_append, List.append_assoc, List.getElem?_append_right (Nat.le_refl _), Nat.sub_self]
        rfl
  · have hgl := (List.getElem?_eq_some_iff.1 g5).1
    by_cases h0 : s = []
    · subst h0
      refine ⟨some g, xs.length, (some g, 0, xs.length), σ ++ [.tys g 5 0], rfl, ?_, by simp, by rw [List.getElem?_append_left hb], typed_pre ht (List.prefix_append ..), fun c hc _ => by rw [List.getElem?_append_left hc], .inr ⟨g, by rw [List.append_nil], by rw [List.append_nil]; exact g2, .inl rfl, g4, by rw [List.append_nil, List.getElem?_append_left hgl]; exact g5, typed_new⟩⟩
      unfold Heap.appendT Heap.append
      simp only [List.length_nil, g6, if_true]
      rfl
    · have hz : s.length ≠ 0 := fun e => h0 (List.eq_nil_of_length_eq_zero e)
      have hset : (σ.set g (.row [] .dead)).length = σ.length := List.length_set ..
      refine ⟨some g, xs.length, (some σ.length, 0, xs.length + s.length), σ.set g (.row [] .dead) ++ [.row (eU8.all (xs ++ s)) .rw] ++ [.tys σ.length 5 0], rfl, ?_, by simp, ?_, ?_, fun c hc hne => ?_, .inr ⟨σ.length, by rw [List.length_append], by simp [h0], .inr (Nat.le_refl _), by omega, ?_, typed_new⟩⟩
      · unfold Heap.appendT Heap.append
        simp only [Nat.mul_one, g6, Nat.zero_add]
        rw [if_neg hz, if_pos ⟨by omega, by omega, hal s⟩, g5]
        dsimp only
        rw [if_pos (by rw [hal]; exact Nat.le_refl _), List.drop_zero, List.take_of_length_le (by rw [hal]; exact Nat.le_refl _), ← happ]
        rfl
      · rw [List.append_assoc, List.getElem?_append_left (by omega), List.getElem?_set_ne g4]
      · exact typed_pre (typed_set ht g5 rfl) (by rw [List.append_assoc]; exact List.prefix_append ..)
      · rw [List.append_assoc, List.getElem?_append_left (by omega), List.getElem?_set_ne (fun e => hne (by rw [e]))]
      · rw [List.append_assoc, List.getElem?_append_right (by omega), hset, Nat.sub_self]
        rfl
theorem w_WriteString_eq {σ : Heap} {b : Nat} {xs : List UInt8} (h : Bld σ b xs) (s : ByteArray) (hl : xs.length + s.size ≤ 70368744177664) :
    ∃ σ', w_strings_Builder_WriteString (some (b, 0)) s σ = some (((s.size : Int), ⟨true⟩), σ') ∧ Wrt σ b (xs ++ s.data.toList) σ' := by
  have hsz : s.data.toList.length = s.size := by rw [Array.length_toList]; rfl
  obtain ⟨a, buf, e1, e2, e3⟩ := h.row
  have hb := h.lt
  have p1 : c_strings_Builder_WriteString.strings_Builder_copyCheck = w_strings_Builder_copyCheck := rfl
  have hr := strings_Builder_WriteString_eq (R := AVal × Heap) c_strings_Builder_WriteString 0 (some (b, 0)) s σ fun v σ => some (v, σ)
  rw [p1, w_copyCheck_eq e1 e2 h.t, Option.bind_some, str_cells] at hr
  simp only [Option.bind_some] at hr
  have hrow1 : (σ.set b (.row [.ptr (some (b, 0)), buf] .rw))[b]? = some (.row [.ptr (some (b, 0)), buf] .rw) := List.getElem?_set_self hb
  have hc : Heap.cell? (σ.set b (.row [.ptr (some (b, 0)), buf] .rw)) b (0 + 1) = some buf := by
    unfold Heap.cell?
    rw [row?_of hrow1 (by simp)]
    rfl
  have hlen1 : (σ.set b (.row [.ptr (some (b, 0)), buf] .rw)).length = σ.length := List.length_set ..
  have hat1 : ∀ c, c ≠ b → (σ.set b (.row [.ptr (some (b, 0)), buf] .rw))[c]? = σ[c]? := fun c hc => List.getElem?_set_ne (Ne.symm hc)
  obtain ⟨bo, no, q, σ2, k0, k1, k2, k3, k4, k5, k6⟩ := buf_grows (σ := σ.set b (.row [.ptr (some (b, 0)), buf] .rw)) (by rw [hlen1]; exact hb) (typed_set h.t e1 rfl) s.data.toList (by rw [hsz]; exact hl)
    (e3.imp id fun ⟨g, g1, g2, g4, g5, g6⟩ => ⟨g, g1, g2, g4, by rw [hat1 g g4]; exact g5, typed_set g6 e1 rfl⟩)
  rw [hlen1] at k2 k5 k6
  have hbo : bufOf σ b = bo := by
    unfold bufOf
    rw [e1]
    rcases e3 with ⟨rfl, _⟩ | ⟨g, rfl, _⟩
    · injection k0 with k0; injection k0
    · injection k0 with k0; injection k0
  rw [hc, k0, Option.bind_some] at hr
  dsimp only at hr
  rw [← hsz, k1, Option.bind_some] at hr
  have hrow2 : σ2[b]? = some (.row [.ptr (some (b, 0)), buf] .rw) := by rw [k3]; exact hrow1
  have hst : σ2.store b (0 + 1) [.slice q.1 q.2.1 q.2.2 1] = some (σ2.set b (.row [.ptr (some (b, 0)), .slice q.1 q.2.1 q.2.2 1] .rw)) := by
    unfold Heap.store
    rw [hrow2]
    rfl
  dsimp only at hr
  rw [hst, Option.bind_some] at hr
  have hb2 := (List.getElem?_eq_some_iff.1 hrow2).1
  have hW : Wrt σ b (xs ++ s.data.toList) (σ2.set b (.row [.ptr (some (b, 0)), .slice q.1 q.2.1 q.2.2 1] .rw)) := by
    refine ⟨⟨typed_set k4 hrow2 rfl, _, _, List.getElem?_set_self hb2, .inr rfl, ?_⟩, by rw [List.length_set]; omega, fun c hc1 hc2 hc3 => ?_, fun g hg => ?_⟩
    · rcases k6 with ⟨rfl, k7⟩ | ⟨g, rfl, k7, k8, k9, k10, k11⟩
      · exact .inl ⟨rfl, k7⟩
      · exact .inr ⟨g, rfl, k7, k9, by rw [List.getElem?_set_ne (Ne.symm k9)]; exact k10, typed_set k11 hrow2 rfl⟩
    · rw [List.getElem?_set_ne (Ne.symm hc2), k5 c hc1 (by rw [← hbo]; exact hc3), hat1 c hc2]
    · unfold bufOf at hg
      rw [List.getElem?_set_self hb2] at hg
      have hg' : q.1 = some g := hg
      rcases k6 with ⟨rfl, k7⟩ | ⟨g', rfl, k7, k8, k9, k10, k11⟩
      · cases hg'
      · injection hg' with hg'
        subst hg'
        rw [hbo]
        exact k8
  have hcall := call_ok ok (K_strings_Builder_WriteString c_strings_Builder_WriteString ok_strings_Builder_copyCheck) hr
  have hcall' : CallOK Tryd.prog T 30 [.ptr (some (b, 0)), .str s] σ ((tPair (tInt .i64) tErr).av ((s.size : Int), ⟨true⟩)) (σ2.set b (.row [.ptr (some (b, 0)), .slice q.1 q.2.1 q.2.2 1] .rw)) := by
    intro ρ ws w hH hG hw
    refine Calls.mono (hcall ρ ws w hH hG hw) fun e w' ⟨cv, ρ', he, q1, q2, q3⟩ => ⟨cv, ρ', he, q1, ?_, q3⟩
    simp only [VRel, VRels, tPair, tInt, tErr] at q2 ⊢
    rw [hsz] at q2
    exact q2
  obtain ⟨v', σ', r1, r2⟩ := wEx_ex (Q := QW (some (b, 0)) s σ) hcall' (fun b' xs' e h' => by
    injection e with e
    injection e with e _
    subst e
    obtain rfl := h'.uniq h
    exact ⟨rfl, hW⟩)
  obtain ⟨r3, r4⟩ := r2 b xs rfl h
  subst r3
  exact ⟨σ', r1, r4⟩
/-! ### String -/
def QS (p : Pt) (σ : Heap) (r : ByteArray) (σ' : Heap) : Prop := ∀ b xs, p = some (b, 0) → Bld σ b xs → r = ba xs ∧ σ.length ≤ σ'.length ∧ ∀ c, c < σ.length → bufOf σ b ≠ some c → σ'[c]? = σ[c]?
noncomputable def w_strings_Builder_String (p : Pt) (σ : Heap) : Option (ByteArray × Heap) := wEx 32 [.ptr p] tStr.av (QS p σ) σ
theorem ok_strings_Builder_String : Ok_strings_Builder_String w_strings_Builder_String := fun _ _ _ _ h => wEx_ok h
theorem bytesX_all (xs : List UInt8) : bytesX (eU8.all xs) = some xs := by
  induction xs with
  | nil => rfl
  | cons x xs ih =>
    rw [El.all_cons]
    show bytesX (.int .u8 (x.toNat : Int) :: eU8.all xs) = _
    have : UInt8.ofNat (x.toNat : Int).toNat = x := by simp
    simp only [bytesX, this, ih]
    rfl
theorem w_BString_eq {σ : Heap} {b : Nat} {xs : List UInt8} (h : Bld σ b xs) (hl : xs.length ≤ 70368744177664) :
    ∃ σ', w_strings_Builder_String (some (b, 0)) σ = some (ba xs, σ') ∧ σ.length ≤ σ'.length ∧ ∀ c, c < σ.length → bufOf σ b ≠ some c → σ'[c]? = σ[c]? := by
  obtain ⟨a, buf, e1, e2, e3⟩ := h.row
  have hr := strings_Builder_String_eq (R := AVal × Heap) 0 (some (b, 0)) σ fun v σ => some (v, σ)
  have hal : ∀ l : List UInt8, (eU8.all l).length = l.length := fun l => by rw [El.all_len]; show l.length * 1 = _; omega
  have hc : Heap.cell? σ b (0 + 1) = some buf := by
    unfold Heap.cell?
    rw [row?_of e1 (by simp)]
    rfl
  simp only [Option.bind_some, hc] at hr
  have core : ∃ σ', callC T known0 0 2 32 [.ptr (some (b, 0))] σ (fun v σ => some (v, σ)) = some (.str (ba xs), σ') ∧ σ.length ≤ σ'.length ∧ ∀ c, c < σ.length → bufOf σ b ≠ some c → σ'[c]? = σ[c]? := by
    rcases e3 with ⟨rfl, rfl⟩ | ⟨g, rfl, g2, g4, g5, g6⟩
    · exact ⟨σ, hr.trans rfl, Nat.le_refl _, fun _ _ _ => rfl⟩
    · have hxl := List.length_pos_iff.2 g2
      refine ⟨σ.set g (.row [] .dead), hr.trans ?_, by rw [List.length_set]; exact Nat.le_refl _, fun c _ hne => ?_⟩
      · have hs : slice? (some (AVal.slice (some g) 0 xs.length 1)) 1 = some (some g, 0, xs.length) := rfl
        simp only [hs, Option.bind_some, sliceData]
        rw [decide_eq_true hxl]
        dsimp only [Option.bind_some]
        have ht : Heap.textOf σ (some (g, 0)) (xs.length : Int) 5 = some (ba xs, σ.set g (.row [] .dead)) := by
          unfold Heap.textOf
          dsimp only
          rw [decide_eq_true rfl, decide_eq_true (show (0 : Int) < (xs.length : Int) by omega), decide_eq_true (show (xs.length : Int) ≤ 9223372036854775807 by omega), g6]
          simp only [Bool.and_true, Bool.true_and]
          rw [g5]
          dsimp only
          rw [Int.toNat_natCast, decide_eq_true (by rw [hal]; exact Nat.le_refl _)]
          dsimp only
          rw [List.take_of_length_le (by rw [hal]; exact Nat.le_refl _), bytesX_all]
          rfl
        rw [ht]
        rfl
      · rw [List.getElem?_set_ne (fun e => hne (by subst e; unfold bufOf; rw [e1]))]
  obtain ⟨σ', c1, c2, c3⟩ := core
  obtain ⟨v', σ3, r1, r2⟩ := wEx_ex (av := tStr.av) (v := ba xs) (Q := QS (some (b, 0)) σ) (call_ok ok known0_ok c1) (fun b' xs' e h' => by
    injection e with e
    injection e with e _
    subst e
    obtain rfl := h'.uniq h
    exact ⟨rfl, c2, c3⟩)
  obtain ⟨r3, r4, r5⟩ := r2 b xs rfl h
  subst r3
  exact ⟨σ3, r1, r4, r5⟩
end Go.Abs.TB
namespace Go.Abs.TB
open Go Go.Abs Go.Proofs

/-! ### Events -/
structure Ev where
  t : Int
  k : Int
  s : ByteArray
  w : Int
  h : Int
def eEv : El Ev := ⟨5, fun e => [.int .i64 e.t, .int .i64 e.k, .str e.s, .int .i64 e.w, .int .i64 e.h], fun _ => rfl, fun a b h => by
  cases a; cases b; simpa using h⟩
instance : El.Flat eEv := ⟨fun _ => rfl⟩
/-- An event that can be written. -/
structure Ev.Fit (e : Ev) : Prop where
  t0 : 0 ≤ e.t
  t1 : e.t < 9223372036854775808
  k0 : 0 ≤ e.k
  k1 : e.k < 4
  s : e.s.size ≤ 1000
  w : I64 e.w
  h : I64 e.h
def sgn (k : Int) : List UInt8 := [([111, 105, 114, 109] : List UInt8).getD k.toNat 0]
def Ev.text (e : Ev) : ByteArray := bif e.k == 2 then ba (Lib.itoa e.w ++ 120 :: Lib.itoa e.h) else e.s
def lineL (e : Ev) : List UInt8 := 91 :: (timeL e.t.toNat ++ ([44, 32, 34] ++ (sgn e.k ++ ([34, 44, 32] ++ (quoteB e.text ++ [93, 10])))))
def headL (w h : Int) : List UInt8 := [123, 34, 118, 101, 114, 115, 105, 111, 110, 34, 58, 32, 50, 44, 32, 34, 119, 105, 100, 116, 104, 34, 58, 32] ++ (Lib.itoa w ++ ([44, 32, 34, 104, 101, 105, 103, 104, 116, 34, 58, 32] ++ (Lib.itoa h ++ [125, 10])))
def exportL (w h : Int) (es : List Ev) : List UInt8 := headL w h ++ es.flatMap lineL
theorem sgn_ex {k : Int} (h0 : 0 ≤ k) (h4 : k < 4) : (((decide (0 ≤ k)) && (decide (k ≤ (IntKind.i64.wrap (k + 1))))) && (decide ((IntKind.i64.wrap (k + 1)) ≤ 4))) = true ∧ (⟨#[111, 105, 114, 109]⟩ : ByteArray).extract k.toNat (IntKind.i64.wrap (k + 1)).toNat = ba (sgn k) := by
  have : k = 0 ∨ k = 1 ∨ k = 2 ∨ k = 3 := by omega
  rcases this with rfl | rfl | rfl | rfl <;> exact ⟨by decide, by decide +kernel⟩
theorem itoa_len {n : Int} (h : I64 n) : (Lib.itoa n).length ≤ 20 := by
  unfold Lib.itoa
  split
  · have := h.1
    have := dec_len_le (u := n.natAbs) (k := 19) (by omega) (by decide)
    simp only [List.length_cons]
    omega
  · have := h.2
    have := dec_len_le (u := n.toNat) (k := 19) (by omega) (by decide)
    omega
theorem pad6_len (n : Nat) (h : n < 1000000) : (pad6 n).length ≤ 6 := by
  have := dec_len_le (u := n) (k := 6) h (by decide)
  unfold pad6
  simp only [List.length_append, List.length_replicate]
  omega
theorem timeL_len {n : Nat} (h : n < 9223372036854775808) : (timeL n).length ≤ 26 := by
  have h1 := dec_len20 (n := n / 1000000) (by omega)
  have h2 := pad6_len (n % 1000000) (Nat.mod_lt _ (by decide))
  unfold timeL
  simp only [List.length_append, List.length_cons]
  omega
theorem quoteB_len (s : ByteArray) : (quoteB s).length ≤ 6 * s.size + 2 := by
  rw [quoteB_L]
  have := quoteL_len s.data.toList
  rwa [Array.length_toList] at this
theorem text_len {e : Ev} (h : e.Fit) : e.text.size ≤ 1000 := by
  unfold Ev.text
  cases e.k == 2 with
  | true =>
    have h1 := itoa_len h.w
    have h2 := itoa_len h.h
    show (ba _).size ≤ _
    rw [ba_size, List.length_append, List.length_cons]
    omega
  | false => exact h.s
theorem line_len {e : Ev} (h : e.Fit) : (lineL e).length ≤ 7000 := by
  have h1 := timeL_len (n := e.t.toNat) (by have := h.t0; have := h.t1; omega)
  have h2 := quoteB_len e.text
  have h3 := text_len h
  unfold lineL sgn
  simp only [List.length_append, List.length_cons, List.length_nil]
  omega
theorem head_len {w h : Int} (hw : I64 w) (hh : I64 h) : (headL w h).length ≤ 100 := by
  have h1 := itoa_len hw
  have h2 := itoa_len hh
  unfold headL
  simp only [List.length_append, List.length_cons, List.length_nil]
  omega
theorem frz_get {σ : Heap} {b : Nat} {cs : List AVal} (h : σ[b]? = some (.row cs .ro)) : σ.frz[b]? = some (.row cs .ro) := by
  unfold Heap.frz
  rw [List.getElem?_map, h]
  rfl
theorem GP.frz {σ : Heap} (h : GP σ) : GP σ.frz := frz_get h
theorem ba_lit (l : List UInt8) : (⟨l.toArray⟩ : ByteArray) = ba l := rfl
/-- What Export has made so far. -/
structure Made (σ0 : Heap) (b : Nat) (σ : Heap) (xs : List UInt8) : Prop where
  len : σ0.length ≤ σ.length
  old : ∀ c, c < σ0.length → σ[c]? = σ0[c]?
  bld : Bld σ b xs
  new : σ0.length ≤ b
  buf : ∀ g, bufOf σ b = some g → σ0.length ≤ g
theorem Made.wrt {σ0 σ σ' : Heap} {b : Nat} {xs ys : List UInt8} (h : Made σ0 b σ xs) (hw : Wrt σ b ys σ') : Made σ0 b σ' ys := by
  refine ⟨Nat.le_trans h.len hw.len, fun c hc => ?_, hw.bld, h.new, fun g hg => ?_⟩
  · rw [hw.at_ c (by have := h.len; omega) (by have := h.new; omega) (fun e => by have := h.buf c e; omega)]
    exact h.old c hc
  · rcases hw.buf g hg with h1 | h1
    · exact h.buf g h1
    · have := h.len; omega
theorem Made.pre {σ0 σ : Heap} {b : Nat} {xs : List UInt8} (h : Made σ0 b σ xs) : σ0 <+: σ := pre_of_get h.len h.old
noncomputable def c_cast_Export : C_cast_Export := { json_Quote := w_json_Quote, json_Time := w_json_Time, strings_Builder_WriteString := w_strings_Builder_WriteString, strconv_Itoa := w_strconv_Itoa, strings_Builder_String := w_strings_Builder_String }
theorem Export_loop {R : Type} {L b : Nat} {l : Sl} {σ0 : Heap} {K : AVal → Heap → Option R} {es : List Ev} (hl : l.Is eEv σ0 es) (hf : ∀ e ∈ es, e.Fit) (hp : GP σ0) (hn : es.length ≤ 100000) :
    ∀ (m i : Nat) (σ : Heap) (xs : List UInt8), es.length - i < m → i ≤ es.length → Made σ0 b σ xs → xs.length ≤ 1000 + 7000 * i →
      ∃ σ', (∀ c, c < σ0.length → σ'[c]? = σ0[c]?) ∧ cast_Export_L4 c_cast_Export L m b l (i : Int) σ K = K (.str (ba (xs ++ (es.drop i).flatMap lineL))) σ'
  | 0, _, _, _, h, _, _, _ => by omega
  | m + 1, i, σ, xs, hm, hi, hM, hx => by
    have q1 : c_cast_Export.json_Quote = w_json_Quote := rfl
    have q2 : c_cast_Export.json_Time = w_json_Time := rfl
    have q3 : c_cast_Export.strings_Builder_WriteString = w_strings_Builder_WriteString := rfl
    have q4 : c_cast_Export.strconv_Itoa = w_strconv_Itoa := rfl
    have q5 : c_cast_Export.strings_Builder_String = w_strings_Builder_String := rfl
    rw [cast_Export_L4_eq, q1, q2, q3, q4, q5, hl.n]
    by_cases h : i < es.length
    · have hge : es[i]? = some es[i] := List.getElem?_eq_getElem h
      have hF := hf es[i] (List.getElem_mem h)
      have hdrop : es.drop i = es[i] :: es.drop (i + 1) := List.drop_eq_getElem_cons h
      generalize es[i] = e at hge hF hdrop
      obtain ⟨lb, hb, hc⟩ := (hl.pre hM.pre).cell hge
      have c0 := hc 0 (by decide); have c1 := hc 1 (by decide); have c2 := hc 2 (by decide); have c3 := hc 3 (by decide); have c4 := hc 4 (by decide)
      change Heap.cell? σ lb (l.o + i * 5 + 0) = some (AVal.int .i64 e.t) at c0
      change Heap.cell? σ lb (l.o + i * 5 + 1) = some (AVal.int .i64 e.k) at c1
      change Heap.cell? σ lb (l.o + i * 5 + 2) = some (AVal.str e.s) at c2
      change Heap.cell? σ lb (l.o + i * 5 + 3) = some (AVal.int .i64 e.w) at c3
      change Heap.cell? σ lb (l.o + i * 5 + 4) = some (AVal.int .i64 e.h) at c4
      rw [Nat.add_zero] at c0
      have hpσ : GP σ := hp.pre hM.pre
      obtain ⟨n, hnt⟩ : ∃ n : Nat, e.t = (n : Int) := ⟨e.t.toNat, by have := hF.t0; omega⟩
      have hn1 : n < 9223372036854775808 := by have := hF.t1; omega
      have ht := timeL_len hn1
      obtain ⟨s1, s2⟩ := sgn_ex hF.k0 hF.k1
      have hq := quoteB_len e.text
      have htx := text_len hF
      have hsg : (sgn e.k).length = 1 := rfl
      have hline : lineL e = 91 :: (timeL n ++ ([44, 32, 34] ++ (sgn e.k ++ ([34, 44, 32] ++ (quoteB e.text ++ [93, 10]))))) := by unfold lineL; rw [hnt, Int.toNat_natCast]
      have hll := line_len hF
      obtain ⟨σ2, w1, w2⟩ := w_WriteString_eq hM.bld (ba (lineL e)) (by rw [ba_size]; omega)
      rw [ba_data] at w2
      obtain ⟨σ3, r1, r2⟩ := Export_loop (L := L) (K := K) hl hf hp hn m (i + 1) σ2 (xs ++ lineL e) (by omega) (by omega) (hM.wrt w2) (by rw [List.length_append]; omega)
      refine ⟨σ3, r1, ?_⟩
      rw [lt_true h, cond_true, dec0, Bool.true_and, cond_true, hb, Option.bind_some, Int.toNat_natCast, c0, c1, c2, c3, c4]
      simp only [int?, str?, beq_self_eq_true, cond_true, Option.bind_some, if_true]
      have l1 : (⟨#[91]⟩ : ByteArray) = ba [91] := rfl
      have l2 : (⟨#[44, 32, 34]⟩ : ByteArray) = ba [44, 32, 34] := rfl
      have l3 : (⟨#[34, 44, 32]⟩ : ByteArray) = ba [34, 44, 32] := rfl
      have l4 : (⟨#[93, 10]⟩ : ByteArray) = ba [93, 10] := rfl
      have l5 : (⟨#[120]⟩ : ByteArray) = ba [120] := rfl
      have hT : w_json_Time e.t σ.frz = some (ba (timeL n), σ.frz) := by rw [hnt]; exact w_json_Time_eq hpσ.frz hn1
      have hQ : w_json_Quote e.text σ.frz = some (ba (quoteB e.text), σ.frz) := w_json_Quote_eq (by omega)
      have hI : ∀ n, I64 n → w_strconv_Itoa n σ.frz = some (ba (Lib.itoa n), σ.frz) := fun n hn => w_strconv_Itoa_eq hpσ.frz hn
      have e1 := hI e.w hF.w
      have e2 := hI e.h hF.h
      have b1 := itoa_len hF.w
      have b2 := itoa_len hF.h
      have hnext : IntKind.i64.wrap ((i : Int) + 1) = ((i + 1 : Nat) : Int) := wrap_i64_succ i (by omega)
      have hfin : ba (xs ++ lineL e ++ List.flatMap lineL (List.drop (i + 1) es)) = ba (xs ++ List.flatMap lineL (List.drop i es)) := by rw [hdrop, List.flatMap_cons, List.append_assoc]
      have hend : [91] ++ timeL n ++ [44, 32, 34] ++ sgn e.k ++ [34, 44, 32] ++ quoteB e.text ++ [93, 10] = lineL e := by
        rw [hline]
        simp only [List.append_assoc, List.cons_append, List.nil_append]
      rw [hfin] at r2
      by_cases hk : e.k = 2
      · have htext : ba (Lib.itoa e.w ++ [120] ++ Lib.itoa e.h) = e.text := by
          unfold Ev.text
          rw [hk, beq_self_eq_true, cond_true, List.append_assoc]
          rfl
        rw [show (e.k == 2) = true by rw [hk]; rfl, cond_true]
        simp only [e1, e2, hT, Option.bind_some, frz_frz', s1, s2, cond_true, l1, l2, l3, l4, l5, ba_append, ba_size, htext, hQ]
        iterate 8 rw [if_pos (by simp only [List.length_append, List.length_cons, List.length_nil]; omega)]
        rw [hend, w1, Option.bind_some, hnext]
        exact r2
      · have htext : e.s = e.text := by
          unfold Ev.text
          rw [show (e.k == 2) = false from beq_eq_false_iff_ne.2 hk, cond_false]
        rw [show (e.k == 2) = false from beq_eq_false_iff_ne.2 hk, cond_false]
        simp only [hT, Option.bind_some, frz_frz', s1, s2, cond_true, l1, l2, l3, l4, l5, ba_append, ba_size, htext, hQ]
        iterate 6 rw [if_pos (by simp only [List.length_append, List.length_cons, List.length_nil]; omega)]
        rw [hend, w1, Option.bind_some, hnext]
        exact r2
    · obtain ⟨σ', w1, w2, w3⟩ := w_BString_eq hM.bld (by omega)
      refine ⟨σ', fun c hc => ?_, ?_⟩
      · rw [w3 c (by have := hM.len; omega) (fun e => by have := hM.buf c e; omega)]
        exact hM.old c hc
      · rw [lt_false h, cond_false, w1, Option.bind_some, List.drop_of_length_le (by omega), List.flatMap_nil, List.append_nil]
end Go.Abs.TB
namespace Go.Abs.TB
open Go Go.Abs Go.Proofs

/-! ### Export -/
def ExpP (w h : Int) (l : Sl) (σ : Heap) (es : List Ev) : Prop := GP σ ∧ I64 w ∧ I64 h ∧ l.Is eEv σ es ∧ es.length ≤ 100000 ∧ ∀ e ∈ es, e.Fit
noncomputable def w_cast_Export (w h : Int) (l : Sl) (σ : Heap) : Option (ByteArray × Heap) := wOf (ExpP w h l σ) fun es => (ba (exportL w h es), σ)
theorem w_cast_Export_eq {w h : Int} {l : Sl} {σ : Heap} {es : List Ev} (hp : ExpP w h l σ es) : w_cast_Export w h l σ = some (ba (exportL w h es), σ) := wOf_eq hp fun es' h' => by rw [h'.2.2.2.1.uniq (by decide) hp.2.2.2.1]
theorem head_lit {w h : Int} : [123, 34, 118, 101, 114, 115, 105, 111, 110, 34, 58, 32, 50, 44, 32, 34, 119, 105, 100, 116, 104, 34, 58, 32] ++ Lib.itoa w ++ [44, 32, 34, 104, 101, 105, 103, 104, 116, 34, 58, 32] ++ Lib.itoa h ++ [125, 10] = headL w h := by
  unfold headL
  simp only [List.append_assoc]
theorem ok_cast_Export : Ok_cast_Export w_cast_Export := fun wd ht l σ v σ' hx => by
  obtain ⟨es, ⟨hp, hw, hh, hl, hn, hf⟩, e⟩ := wOf_some hx
  injection e with e1 e2
  subst e1; subst e2
  have q3 : c_cast_Export.strings_Builder_WriteString = w_strings_Builder_WriteString := rfl
  have q4 : c_cast_Export.strconv_Itoa = w_strconv_Itoa := rfl
  have hlen : (σ ++ [Blk.row [.ptr none, .slice none 0 0 1] .rw] ++ [Blk.tys σ.length 51 2]).length = σ.length + 2 := by simp
  have hrow : (σ ++ [Blk.row [.ptr none, .slice none 0 0 1] .rw] ++ [Blk.tys σ.length 51 2])[σ.length]? = some (.row [.ptr none, .slice none 0 0 1] .rw) := by
    rw [List.append_assoc, List.getElem?_append_right (Nat.le_refl _), Nat.sub_self]; rfl
  have hpre : σ <+: σ ++ [Blk.row [.ptr none, .slice none 0 0 1] .rw] ++ [Blk.tys σ.length 51 2] := by rw [List.append_assoc]; exact List.prefix_append ..
  have hB : Bld (σ ++ [Blk.row [.ptr none, .slice none 0 0 1] .rw] ++ [Blk.tys σ.length 51 2]) σ.length [] := ⟨typed_new, _, _, hrow, .inl rfl, .inl ⟨rfl, rfl⟩⟩
  have hM : Made σ σ.length (σ ++ [Blk.row [.ptr none, .slice none 0 0 1] .rw] ++ [Blk.tys σ.length 51 2]) [] := ⟨by omega, fun c hc => get_pre hpre hc, hB, Nat.le_refl _, fun g hg => by
    unfold bufOf at hg
    rw [hrow] at hg
    cases hg⟩
  have l1 : (⟨#[123, 34, 118, 101, 114, 115, 105, 111, 110, 34, 58, 32, 50, 44, 32, 34, 119, 105, 100, 116, 104, 34, 58, 32]⟩ : ByteArray) = ba [123, 34, 118, 101, 114, 115, 105, 111, 110, 34, 58, 32, 50, 44, 32, 34, 119, 105, 100, 116, 104, 34, 58, 32] := rfl
  have l2 : (⟨#[44, 32, 34, 104, 101, 105, 103, 104, 116, 34, 58, 32]⟩ : ByteArray) = ba [44, 32, 34, 104, 101, 105, 103, 104, 116, 34, 58, 32] := rfl
  have l3 : (⟨#[125, 10]⟩ : ByteArray) = ba [125, 10] := rfl
  have b1 := itoa_len hw
  have b2 := itoa_len hh
  have hhl := head_len hw hh
  have core : ∃ σ', callC T (O_cast_Export c_cast_Export) 100001 2 18 [.int .i64 wd, .int .i64 ht, .slice l.b l.o l.n 5] σ (fun v σ => some (v, σ)) = some (.str (ba (exportL wd ht es)), σ') ∧ ∀ c, c < σ.length → σ'[c]? = σ[c]? := by
    rw [cast_Export_eq, q3, q4]
    unfold allocT
    change ∃ σ', ((w_strconv_Itoa wd (σ ++ [Blk.row [.ptr none, .slice none 0 0 1] .rw] ++ [Blk.tys σ.length 51 2])).bind _) = _ ∧ _
    generalize σ ++ [Blk.row [.ptr none, .slice none 0 0 1] .rw] ++ [Blk.tys σ.length 51 2] = σ1 at hlen hrow hpre hB hM
    have hp1 : GP σ1 := hp.pre hpre
    obtain ⟨σ2, w1, w2⟩ := w_WriteString_eq hM.bld (ba (headL wd ht)) (by rw [ba_size]; show 0 + _ ≤ _; omega)
    rw [ba_data, List.nil_append] at w2
    obtain ⟨σ3, r1, r2⟩ := Export_loop (L := 100001) (K := fun v σ => some (v, σ)) hl hf hp hn 100001 0 σ2 (headL wd ht) (by omega) (by omega) (hM.wrt w2) (by omega)
    refine ⟨σ3, ?_, r1⟩
    rw [w_strconv_Itoa_eq hp1 hw, Option.bind_some, w_strconv_Itoa_eq hp1 hh]
    simp only [Option.bind_some, l1, l2, l3, ba_append, ba_size]
    iterate 4 rw [if_pos (by (try simp only [List.length_append, List.length_cons, List.length_nil]); omega)]
    rw [head_lit, w1, Option.bind_some]
    exact r2
  obtain ⟨σ', g1, g2⟩ := core
  exact call_gc0 (call_ok ok (K_cast_Export c_cast_Export ok_json_Quote ok_json_Time ok_strings_Builder_WriteString ok_strconv_Itoa ok_strings_Builder_String) g1) g2 trivial
/-! ### write -/
noncomputable def c_law17_write : C_law17_write := { json_Quote := w_json_Quote, json_Time := w_json_Time, strconv_Itoa := w_strconv_Itoa }
theorem write_loop {R : Type} {L : Nat} {l : Sl} {σ : Heap} {K : AVal → Heap → Option R} {es : List Ev} (hl : l.Is eEv σ es) (hf : ∀ e ∈ es, e.Fit) (hp : GP σ) (hn : es.length ≤ 100000) :
    ∀ (m i : Nat) (xs : List UInt8), es.length - i < m → i ≤ es.length → xs.length ≤ 1000 + 7000 * i →
      law17_write_L3 c_law17_write L m (ba xs) l (i : Int) σ K = K (.str (ba (xs ++ (es.drop i).flatMap lineL))) σ
  | 0, _, _, h, _, _ => by omega
  | m + 1, i, xs, hm, hi, hx => by
    have q1 : c_law17_write.json_Quote = w_json_Quote := rfl
    have q2 : c_law17_write.json_Time = w_json_Time := rfl
    have q4 : c_law17_write.strconv_Itoa = w_strconv_Itoa := rfl
    rw [law17_write_L3_eq, q1, q2, q4, hl.n]
    by_cases h : i < es.length
    · have hge : es[i]? = some es[i] := List.getElem?_eq_getElem h
      have hF := hf es[i] (List.getElem_mem h)
      have hdrop : es.drop i = es[i] :: es.drop (i + 1) := List.drop_eq_getElem_cons h
      generalize es[i] = e at hge hF hdrop
      obtain ⟨lb, hb, hc⟩ := hl.cell hge
      have c0 := hc 0 (by decide); have c1 := hc 1 (by decide); have c2 := hc 2 (by decide); have c3 := hc 3 (by decide); have c4 := hc 4 (by decide)
      change Heap.cell? σ lb (l.o + i * 5 + 0) = some (AVal.int .i64 e.t) at c0
      change Heap.cell? σ lb (l.o + i * 5 + 1) = some (AVal.int .i64 e.k) at c1
      change Heap.cell? σ lb (l.o + i * 5 + 2) = some (AVal.str e.s) at c2
      change Heap.cell? σ lb (l.o + i * 5 + 3) = some (AVal.int .i64 e.w) at c3
      change Heap.cell? σ lb (l.o + i * 5 + 4) = some (AVal.int .i64 e.h) at c4
      rw [Nat.add_zero] at c0
      obtain ⟨n, hnt⟩ : ∃ n : Nat, e.t = (n : Int) := ⟨e.t.toNat, by have := hF.t0; omega⟩
      have hn1 : n < 9223372036854775808 := by have := hF.t1; omega
      have ht := timeL_len hn1
      have hq := quoteB_len e.text
      have htx := text_len hF
      have hsg : (sgn e.k).length = 1 := rfl
      have hline : lineL e = 91 :: (timeL n ++ ([44, 32, 34] ++ (sgn e.k ++ ([34, 44, 32] ++ (quoteB e.text ++ [93, 10]))))) := by unfold lineL; rw [hnt, Int.toNat_natCast]
      have hll := line_len hF
      have r2 := write_loop (L := L) (K := K) hl hf hp hn m (i + 1) (xs ++ lineL e) (by omega) (by omega) (by rw [List.length_append]; omega)
      rw [lt_true h, cond_true, dec0, Bool.true_and, cond_true, hb, Option.bind_some, Int.toNat_natCast, c0, c1, c2, c3, c4]
      simp only [int?, str?, Option.bind_some, if_true]
      have l1 : (⟨#[91]⟩ : ByteArray) = ba [91] := rfl
      have l2 : (⟨#[44, 32, 34]⟩ : ByteArray) = ba [44, 32, 34] := rfl
      have l3 : (⟨#[34, 44, 32]⟩ : ByteArray) = ba [34, 44, 32] := rfl
      have l4 : (⟨#[93, 10]⟩ : ByteArray) = ba [93, 10] := rfl
      have l5 : (⟨#[120]⟩ : ByteArray) = ba [120] := rfl
      have hT : w_json_Time e.t σ = some (ba (timeL n), σ) := by rw [hnt]; exact w_json_Time_eq hp hn1
      have hQ : w_json_Quote e.text σ = some (ba (quoteB e.text), σ) := w_json_Quote_eq (by omega)
      have hI : ∀ n, I64 n → w_strconv_Itoa n σ.frz = some (ba (Lib.itoa n), σ.frz) := fun n hn => w_strconv_Itoa_eq hp.frz hn
      have e1 := hI e.w hF.w
      have e2 := hI e.h hF.h
      have b1 := itoa_len hF.w
      have b2 := itoa_len hF.h
      have hnext : IntKind.i64.wrap ((i : Int) + 1) = ((i + 1 : Nat) : Int) := wrap_i64_succ i (by omega)
      have hfin : ba (xs ++ lineL e ++ List.flatMap lineL (List.drop (i + 1) es)) = ba (xs ++ List.flatMap lineL (List.drop i es)) := by rw [hdrop, List.flatMap_cons, List.append_assoc]
      have hend : [91] ++ timeL n ++ [44, 32, 34] ++ sgn e.k ++ [34, 44, 32] ++ quoteB e.text ++ [93, 10] = lineL e := by
        rw [hline]
        simp only [List.append_assoc, List.cons_append, List.nil_append]
      rw [hfin] at r2
      by_cases hk : e.k = 2
      · have htext : ba (Lib.itoa e.w ++ [120] ++ Lib.itoa e.h) = e.text := by
          unfold Ev.text
          rw [hk, beq_self_eq_true, cond_true, List.append_assoc]
          rfl
        have l8 : (⟨#[114]⟩ : ByteArray) = ba (sgn e.k) := by rw [hk]; rfl
        rw [show (e.k == 1) = false by rw [hk]; rfl, show (e.k == 2) = true by rw [hk]; rfl, cond_false, cond_true]
        simp only [e1, e2, hT, Option.bind_some, frz_frz', l1, l2, l3, l4, l5, l8, ba_append, ba_size, htext, hQ, hend]
        iterate 9 rw [if_pos (by (try simp only [List.length_append, List.length_cons, List.length_nil]); omega)]
        rw [hnext]
        exact r2
      · have htext : e.s = e.text := by
          unfold Ev.text
          rw [show (e.k == 2) = false from beq_eq_false_iff_ne.2 hk, cond_false]
        have : e.k = 0 ∨ e.k = 1 ∨ e.k = 3 := by have := hF.k0; have := hF.k1; omega
        rcases this with h1 | h1 | h1
        · have l6 : (⟨#[111]⟩ : ByteArray) = ba (sgn e.k) := by rw [h1]; rfl
          rw [show (e.k == 1) = false by rw [h1]; rfl, show (e.k == 2) = false by rw [h1]; rfl, show (e.k == 3) = false by rw [h1]; rfl, cond_false, cond_false, cond_false]
          simp only [hT, Option.bind_some, l1, l2, l3, l4, l6, ba_append, ba_size, htext, hQ, hend]
          iterate 7 rw [if_pos (by (try simp only [List.length_append, List.length_cons, List.length_nil]); omega)]
          rw [hnext]
          exact r2
        · have l7 : (⟨#[105]⟩ : ByteArray) = ba (sgn e.k) := by rw [h1]; rfl
          rw [show (e.k == 1) = true by rw [h1]; rfl, cond_true]
          simp only [hT, Option.bind_some, l1, l2, l3, l4, l7, ba_append, ba_size, htext, hQ, hend]
          iterate 7 rw [if_pos (by (try simp only [List.length_append, List.length_cons, List.length_nil]); omega)]
          rw [hnext]
          exact r2
        · have l9 : (⟨#[109]⟩ : ByteArray) = ba (sgn e.k) := by rw [h1]; rfl
          rw [show (e.k == 1) = false by rw [h1]; rfl, show (e.k == 2) = false by rw [h1]; rfl, show (e.k == 3) = true by rw [h1]; rfl, cond_false, cond_false, cond_true]
          simp only [hT, Option.bind_some, l1, l2, l3, l4, l9, ba_append, ba_size, htext, hQ, hend]
          iterate 7 rw [if_pos (by (try simp only [List.length_append, List.length_cons, List.length_nil]); omega)]
          rw [hnext]
          exact r2
    · rw [lt_false h, cond_false, List.drop_of_length_le (by omega), List.flatMap_nil, List.append_nil]
noncomputable def w_law17_write (w h : Int) (l : Sl) (σ : Heap) : Option (ByteArray × Heap) := wOf (ExpP w h l σ) fun es => (ba (exportL w h es), σ)
theorem w_law17_write_eq {w h : Int} {l : Sl} {σ : Heap} {es : List Ev} (hp : ExpP w h l σ es) : w_law17_write w h l σ = some (ba (exportL w h es), σ) := w_cast_Export_eq hp
theorem ok_law17_write : Ok_law17_write w_law17_write := fun wd ht l σ v σ' hx => by
  obtain ⟨es, ⟨hp, hw, hh, hl, hn, hf⟩, e⟩ := wOf_some hx
  injection e with e1 e2
  subst e1; subst e2
  have q4 : c_law17_write.strconv_Itoa = w_strconv_Itoa := rfl
  have l1 : (⟨#[123, 34, 118, 101, 114, 115, 105, 111, 110, 34, 58, 32, 50, 44, 32, 34, 119, 105, 100, 116, 104, 34, 58, 32]⟩ : ByteArray) = ba [123, 34, 118, 101, 114, 115, 105, 111, 110, 34, 58, 32, 50, 44, 32, 34, 119, 105, 100, 116, 104, 34, 58, 32] := rfl
  have l2 : (⟨#[44, 32, 34, 104, 101, 105, 103, 104, 116, 34, 58, 32]⟩ : ByteArray) = ba [44, 32, 34, 104, 101, 105, 103, 104, 116, 34, 58, 32] := rfl
  have l3 : (⟨#[125, 10]⟩ : ByteArray) = ba [125, 10] := rfl
  have b1 := itoa_len hw
  have b2 := itoa_len hh
  have hhl := head_len hw hh
  refine call_ok ok (K_law17_write c_law17_write ok_json_Quote ok_json_Time ok_strconv_Itoa) (L := 100001) (n := 2) ((law17_write_eq c_law17_write 100001 wd ht l σ _).trans ?_)
  rw [q4, w_strconv_Itoa_eq hp hw, Option.bind_some, w_strconv_Itoa_eq hp hh]
  simp only [Option.bind_some, l1, l2, l3, ba_append, ba_size]
  iterate 4 rw [if_pos (by (try simp only [List.length_append, List.length_cons, List.length_nil]); omega)]
  rw [head_lit]
  exact write_loop (L := 100001) (K := fun v σ => some (v, σ)) hl hf hp hn 100001 0 (headL wd ht) (by omega) (by omega) (by omega)
end Go.Abs.TB
namespace Go.Abs.TB
open Go Go.Abs Go.Proofs

/-! ### Tame -/
def msk (x m : Int) : Int := IntKind.i64.wrap (BitVec.ofInt IntKind.i64.bits x &&& BitVec.ofInt IntKind.i64.bits m).toNat
theorem msk_nat (x : Int) {m : Nat} (hm : m < 9223372036854775808) : ∃ u : Nat, u ≤ m ∧ msk x (m : Int) = (u : Int) := by
  have h : (BitVec.ofInt IntKind.i64.bits x &&& BitVec.ofInt IntKind.i64.bits (m : Int)).toNat ≤ m := by
    rw [BitVec.toNat_and]
    refine Nat.le_trans Nat.and_le_right ?_
    rw [BitVec.toNat_ofInt]
    show ((m : Int) % (2 ^ 64 : Nat)).toNat ≤ m
    omega
  exact ⟨_, h, wrap_nat (by omega)⟩
def cut (s : ByteArray) : ByteArray := if s.size > 400 then s.extract 0 400 else s
def tameE (t : Int) (e : Ev) : Ev :=
  if msk e.k 3 = 2 then ⟨t, msk e.k 3, ⟨#[]⟩, IntKind.i64.wrap (msk e.w 127 + 1), IntKind.i64.wrap (msk e.h 127 + 1)⟩
  else ⟨t, msk e.k 3, cut e.s, 0, 0⟩
def tameL : Int → List Ev → List Ev
  | _, [] => []
  | t, e :: es => tameE (IntKind.i64.wrap (t + msk e.t 65535)) e :: tameL (IntKind.i64.wrap (t + msk e.t 65535)) es
theorem tameL_len : ∀ (es : List Ev) (t : Int), (tameL t es).length = es.length
  | [], _ => rfl
  | _ :: es, t => by simp [tameL, tameL_len es]
theorem cut_size (s : ByteArray) : (cut s).size ≤ 400 := by
  unfold cut
  split
  · rw [ByteArray.size_extract]; omega
  · omega
/-- What Tame makes. -/
structure Ev.Tame (e : Ev) : Prop where
  t0 : 0 ≤ e.t
  t1 : e.t ≤ 65535000
  k0 : 0 ≤ e.k
  k1 : e.k < 4
  s : e.s.size ≤ 400
  s2 : e.k = 2 → e.s = ⟨#[]⟩
  w : 0 ≤ e.w ∧ e.w ≤ 128
  h : 0 ≤ e.h ∧ e.h ≤ 128
  wh : (e.k = 2 → 1 ≤ e.w ∧ 1 ≤ e.h) ∧ (e.k ≠ 2 → e.w = 0 ∧ e.h = 0)
theorem Ev.Tame.fit {e : Ev} (h : e.Tame) : e.Fit := ⟨h.t0, by have := h.t1; omega, h.k0, h.k1, by have := h.s; omega, by have := h.w; constructor <;> omega, by have := h.h; constructor <;> omega⟩
theorem tameE_tame {t : Int} (h0 : 0 ≤ t) (h1 : t ≤ 65535000) (e : Ev) : (tameE t e).Tame := by
  obtain ⟨k, hk, ek⟩ := msk_nat e.k (m := 3) (by decide)
  obtain ⟨w, hw, ew⟩ := msk_nat e.w (m := 127) (by decide)
  obtain ⟨h, hh, eh⟩ := msk_nat e.h (m := 127) (by decide)
  change msk e.k 3 = _ at ek
  change msk e.w 127 = _ at ew
  change msk e.h 127 = _ at eh
  have w1 := wrap_i64_succ w (by omega)
  have h2 := wrap_i64_succ h (by omega)
  unfold tameE
  rw [ek, ew, eh, w1, h2]
  have hc := cut_size e.s
  split
  · rename_i e2
    exact ⟨h0, h1, by show (0 : Int) ≤ k; omega, by show (k : Int) < 4; omega, Nat.zero_le _, fun _ => rfl, ⟨by show (0 : Int) ≤ (w + 1 : Nat); omega, by show ((w + 1 : Nat) : Int) ≤ 128; omega⟩, ⟨by show (0 : Int) ≤ (h + 1 : Nat); omega, by show ((h + 1 : Nat) : Int) ≤ 128; omega⟩,
      fun _ => ⟨by show (1 : Int) ≤ (w + 1 : Nat); omega, by show (1 : Int) ≤ (h + 1 : Nat); omega⟩, fun hn => absurd e2 hn⟩
  · rename_i e2
    exact ⟨h0, h1, by show (0 : Int) ≤ k; omega, by show (k : Int) < 4; omega, hc, fun hn => absurd hn e2, ⟨by show (0 : Int) ≤ 0; omega, by show (0 : Int) ≤ 128; omega⟩, ⟨by show (0 : Int) ≤ 0; omega, by show (0 : Int) ≤ 128; omega⟩, fun hn => absurd hn e2, fun _ => ⟨rfl, rfl⟩⟩
theorem tame_t {t : Int} {i : Nat} (h0 : 0 ≤ t) (h1 : t ≤ 65535 * i) (hi : i < 1000) (x : Int) : 0 ≤ IntKind.i64.wrap (t + msk x 65535) ∧ IntKind.i64.wrap (t + msk x 65535) ≤ 65535 * (i + 1 : Nat) := by
  obtain ⟨u, hu, eu⟩ := msk_nat x (m := 65535) (by decide)
  change msk x 65535 = _ at eu
  rw [eu, wrap_i64_of (by omega) (by omega)]
  constructor <;> omega
theorem tameL_tame : ∀ (es : List Ev) (t : Int) (i : Nat), 0 ≤ t → t ≤ 65535 * i → i + es.length ≤ 1000 → ∀ e ∈ tameL t es, e.Tame
  | [], _, _, _, _, _, _, h => by cases h
  | x :: es, t, i, h0, h1, h2, e, he => by
    rw [List.length_cons] at h2
    have := tame_t h0 h1 (by omega) x.t
    rw [tameL, List.mem_cons] at he
    rcases he with rfl | he
    · exact tameE_tame this.1 (by omega) x
    · exact tameL_tame es _ (i + 1) this.1 this.2 (by omega) e he
theorem Tame_loop {R : Type} {L : Nat} {l : Sl} {σ0 : Heap} {K : AVal → Heap → Option R} {es : List Ev} (hl : l.Is eEv σ0 es) (hn : es.length ≤ 1000) :
    ∀ (m i : Nat) (t : Int) (out : Sl) (σ : Heap) (ys : List Ev), es.length - i < m → i ≤ es.length → ys.length = i → Mine eEv σ0 out σ ys →
      ∃ σ' out', Mine eEv σ0 out' σ' (ys ++ tameL t (es.drop i)) ∧ ref12_Tame_L4 L m l out t (i : Int) σ K = K (.slice out'.b out'.o out'.n 5) σ'
  | 0, _, _, _, _, _, h, _, _, _ => by omega
  | m + 1, i, t, out, σ, ys, hm, hi, hy, hM => by
    rw [ref12_Tame_L4_eq, hl.n]
    by_cases h : i < es.length
    · have hge : es[i]? = some es[i] := List.getElem?_eq_getElem h
      have hdrop : es.drop i = es[i] :: es.drop (i + 1) := List.drop_eq_getElem_cons h
      generalize es[i] = e at hge hdrop
      obtain ⟨lb, hb, hc⟩ := (hl.pre hM.pre).cell hge
      have c0 := hc 0 (by decide); have c1 := hc 1 (by decide); have c2 := hc 2 (by decide); have c3 := hc 3 (by decide); have c4 := hc 4 (by decide)
      change Heap.cell? σ lb (l.o + i * 5 + 0) = some (AVal.int .i64 e.t) at c0
      change Heap.cell? σ lb (l.o + i * 5 + 1) = some (AVal.int .i64 e.k) at c1
      change Heap.cell? σ lb (l.o + i * 5 + 2) = some (AVal.str e.s) at c2
      change Heap.cell? σ lb (l.o + i * 5 + 3) = some (AVal.int .i64 e.w) at c3
      change Heap.cell? σ lb (l.o + i * 5 + 4) = some (AVal.int .i64 e.h) at c4
      rw [Nat.add_zero] at c0
      have hnext : IntKind.i64.wrap ((i : Int) + 1) = ((i + 1 : Nat) : Int) := wrap_i64_succ i (by omega)
      have step : ∀ e', tameE (IntKind.i64.wrap (t + msk e.t 65535)) e = e' → ∃ σ' out', Mine eEv σ0 out' σ' (ys ++ tameL t (es.drop i)) ∧ ((Heap.append σ out.b out.o out.n 5 48 (eEv.en e') 1).bind fun q => ref12_Tame_L4 L m l ⟨q.1.1, q.1.2.1, q.1.2.2⟩ (IntKind.i64.wrap (t + msk e.t 65535)) ((i + 1 : Nat) : Int) q.2 K) = K (.slice out'.b out'.o out'.n 5) σ' := fun e' he' => by
        obtain ⟨q, σ1, a1, a2⟩ := hM.append (zs := [e']) (bytes := 48) (vs := eEv.en e') (k := 1) (by rw [El.all_cons, El.all_nil, List.append_nil]) rfl (by simp only [List.length_singleton]; omega) (by simp only [List.length_singleton]; omega)
        obtain ⟨σ2, out2, r1, r2⟩ := Tame_loop (L := L) (K := K) hl hn m (i + 1) (IntKind.i64.wrap (t + msk e.t 65535)) _ _ _ (by omega) (by omega) (by rw [List.length_append, hy]; rfl) a2
        refine ⟨σ2, out2, ?_, ?_⟩
        · rw [hdrop, tameL, he']
          rw [List.append_assoc] at r1
          exact r1
        · rw [show Heap.append σ out.b out.o out.n 5 48 (eEv.en e') 1 = some (q, σ1) from a1, Option.bind_some]
          exact r2
      rw [lt_true h, cond_true, dec0, Bool.true_and, cond_true, hb, Option.bind_some, Int.toNat_natCast, c0, c1, c2, c3, c4]
      simp only [int?, str?, Option.bind_some, if_true, hnext]
      by_cases hs : e.s.size > 400
      · rw [decide_eq_true (show (e.s.size : Int) > 400 by omega), cond_true, decide_eq_true (show (400 : Int) ≤ (e.s.size : Int) by omega), cond_true]
        by_cases hk : msk e.k 3 = 2
        · obtain ⟨σ', out', g1, g2⟩ := step _ (by unfold tameE; rw [if_pos hk])
          exact ⟨σ', out', g1, by rw [show ((IntKind.i64.wrap (BitVec.ofInt IntKind.i64.bits e.k &&& BitVec.ofInt IntKind.i64.bits 3).toNat) == 2) = true from beq_iff_eq.2 hk, cond_true]; exact g2⟩
        · obtain ⟨σ', out', g1, g2⟩ := step _ (by unfold tameE; rw [if_neg hk, cut, if_pos hs])
          exact ⟨σ', out', g1, by rw [show ((IntKind.i64.wrap (BitVec.ofInt IntKind.i64.bits e.k &&& BitVec.ofInt IntKind.i64.bits 3).toNat) == 2) = false from beq_eq_false_iff_ne.2 hk, cond_false]; exact g2⟩
      · rw [decide_eq_false (show ¬ (e.s.size : Int) > 400 by omega), cond_false]
        by_cases hk : msk e.k 3 = 2
        · obtain ⟨σ', out', g1, g2⟩ := step _ (by unfold tameE; rw [if_pos hk])
          exact ⟨σ', out', g1, by rw [show ((IntKind.i64.wrap (BitVec.ofInt IntKind.i64.bits e.k &&& BitVec.ofInt IntKind.i64.bits 3).toNat) == 2) = true from beq_iff_eq.2 hk, cond_true]; exact g2⟩
        · obtain ⟨σ', out', g1, g2⟩ := step _ (by unfold tameE; rw [if_neg hk, cut, if_neg hs])
          exact ⟨σ', out', g1, by rw [show ((IntKind.i64.wrap (BitVec.ofInt IntKind.i64.bits e.k &&& BitVec.ofInt IntKind.i64.bits 3).toNat) == 2) = false from beq_eq_false_iff_ne.2 hk, cond_false]; exact g2⟩
    · refine ⟨σ, out, ?_, by rw [lt_false h, cond_false]⟩
      rw [List.drop_of_length_le (by omega), tameL, List.append_nil]
      exact hM
noncomputable def w_ref12_Tame (l : Sl) (σ : Heap) : Option (Sl × Heap) := wOf (fun es : List Ev => l.Is eEv σ es ∧ es.length ≤ 1000) fun es => fresh eEv σ es.isEmpty (tameL 0 es)
theorem w_ref12_Tame_eq {l : Sl} {σ : Heap} {es : List Ev} (h : l.Is eEv σ es) (hn : es.length ≤ 1000) : w_ref12_Tame l σ = some (fresh eEv σ es.isEmpty (tameL 0 es)) := wOf_eq (P := fun es : List Ev => l.Is eEv σ es ∧ es.length ≤ 1000) (f := fun es => fresh eEv σ es.isEmpty (tameL 0 es)) ⟨h, hn⟩ fun es' h' => by rw [h'.1.uniq (by decide) h]
theorem ok_ref12_Tame : Ok_ref12_Tame w_ref12_Tame := fun l σ v σ' hx => by
  obtain ⟨es, ⟨hl, hn⟩, e⟩ := wOf_some hx
  have e1 : v = (fresh eEv σ es.isEmpty (tameL 0 es)).1 := by rw [e]
  have e2 : σ' = (fresh eEv σ es.isEmpty (tameL 0 es)).2 := by rw [e]
  subst e1; subst e2
  obtain ⟨σ1, out, g1, g2⟩ := Tame_loop (L := 1001) (K := fun v σ => some (v, σ)) hl hn 1001 0 0 ⟨none, 0, 0⟩ σ [] (by omega) (by omega) rfl (Mine.start σ)
  have hc := call_ok ok known0_ok (L := 1001) (n := 2) ((ref12_Tame_eq 1001 l σ _).trans g2)
  rw [List.drop_zero, List.nil_append] at g1
  cases es with
  | nil =>
    have g3 : ref12_Tame_L4 1001 1001 l ⟨none, 0, 0⟩ 0 ((0 : Nat) : Int) σ (fun v σ => some (v, σ)) = some (.slice none 0 0 5, σ) := by rw [ref12_Tame_L4_eq, hl.n]; rfl
    exact call_mine (out := ⟨none, 0, 0⟩) (call_ok ok known0_ok (L := 1001) (n := 2) ((ref12_Tame_eq 1001 l σ _).trans g3)) (Mine.start σ) rfl
  | cons x es => exact call_mine hc g1 (Own.some_of_ne g1.own (by rw [tameL]; simp)).symm
/-! ### fit -/
def fitE : Ev := ⟨1, 2, ⟨#[]⟩, 80, 24⟩
noncomputable def c_law17_fit : C_law17_fit := { cast_Export := w_cast_Export }
noncomputable def w_law17_fit (σ : Heap) : Option (Bool × Heap) := wIf (GP σ) (true, σ)
theorem w_law17_fit_eq {σ : Heap} (h : GP σ) : w_law17_fit σ = some (true, σ) := wIf_eq h
def fitL : List UInt8 := [123, 34, 118, 101, 114, 115, 105, 111, 110, 34, 58, 32, 50, 44, 32, 34, 119, 105, 100, 116, 104, 34, 58, 32, 49, 44, 32, 34, 104, 101, 105, 103, 104, 116, 34, 58, 32, 50, 125, 10, 91, 48, 46, 48, 48, 48, 48, 48, 49, 44, 32, 34, 114, 34, 44, 32, 34, 56, 48, 120, 50, 52, 34, 93, 10]
theorem fit_text : exportL 1 2 [fitE] = fitL := by decide +kernel
theorem ok_law17_fit : Ok_law17_fit w_law17_fit := fun σ v σ' h => by
  obtain ⟨hp, e⟩ := wIf_some h
  injection e with e1 e2
  subst e1; subst e2
  have q1 : c_law17_fit.cast_Export = w_cast_Export := rfl
  have hpre : σ <+: σ ++ [.row (eEv.all [fitE]) .rw] := pre_push ..
  have hI : Sl.Is ⟨some σ.length, 0, 1⟩ eEv (σ ++ [.row (eEv.all [fitE]) .rw]) [fitE] := Sl.Is.new (xs := [fitE]) (by decide)
  have hx := w_cast_Export_eq (w := 1) (h := 2) (l := ⟨some σ.length, 0, 1⟩) (σ := σ ++ [.row (eEv.all [fitE]) .rw]) (es := [fitE]) ⟨hp.pre hpre, by constructor <;> decide, by constructor <;> decide, hI, by decide, fun e he => by
    rw [List.mem_singleton] at he
    subst he
    exact ⟨by decide, by decide, by decide, by decide, by decide, by constructor <;> decide, by constructor <;> decide⟩⟩
  refine call_gc0 (call_ok ok (K_law17_fit c_law17_fit ok_cast_Export) (L := 1) (n := 2) (σ' := σ ++ [.row (eEv.all [fitE]) .rw]) ((law17_fit_eq c_law17_fit 1 σ _).trans ?_)) (fun b hb => get_pre hpre hb) trivial
  rw [q1]
  unfold alloc
  change (w_cast_Export 1 2 ⟨some σ.length, 0, 1⟩ (σ ++ [.row (eEv.all [fitE]) .rw])).bind _ = _
  rw [hx, Option.bind_some]
  change some (AVal.bool ((ba (exportL 1 2 [fitE])).toList == (ba fitL).toList), _) = some (AVal.bool true, _)
  rw [ba_toList, ba_toList, fit_text, beq_self_eq_true]
end Go.Abs.TB
namespace Go.Abs.TB
open Go Go.Abs Go.Proofs

/-! ### Prefixes -/
def cutP (q l : List UInt8) : Option (List UInt8) := if l.take q.length = q then some (l.drop q.length) else none
theorem cutP_back (q l : List UInt8) : cutP q (q ++ l) = some l := by
  unfold cutP
  rw [if_pos (by simp)]
  simp
theorem cutP_sound {q l r : List UInt8} (h : cutP q l = some r) : q ++ r = l := by
  unfold cutP at h
  split at h
  · rename_i e
    injection h with h
    subst h
    conv => lhs; lhs; rw [← e]
    exact List.take_append_drop ..
  · cases h
theorem cutP_len {q l r : List UInt8} (h : cutP q l = some r) : r.length + q.length = l.length := by
  have := congrArg List.length (cutP_sound h)
  rw [List.length_append] at this
  omega
noncomputable def w_internal_stringslite_HasPrefix (s p : ByteArray) (σ : Heap) : Option (Bool × Heap) := some (decide (s.data.toList.take p.size = p.data.toList), σ)
theorem ok_internal_stringslite_HasPrefix : Ok_internal_stringslite_HasPrefix w_internal_stringslite_HasPrefix := fun s p σ v σ' h => by
  injection h with h
  injection h with e1 e2
  subst e1; subst e2
  obtain ⟨l, rfl⟩ : ∃ l, s = ba l := ⟨_, ba_self s⟩
  obtain ⟨q, rfl⟩ : ∃ q, p = ba q := ⟨_, ba_self p⟩
  refine call_ok ok known0_ok (L := 1) (n := 2) ((internal_stringslite_HasPrefix_eq 1 (ba l) (ba q) σ _).trans ?_)
  simp only [ba_size, ba_data, ba_to, ba_toList]
  by_cases h : q.length ≤ l.length
  · rw [decide_eq_true (show (l.length : Int) ≥ (q.length : Int) by omega), cond_true, dec0, Bool.true_and, cond_true]
    by_cases e : l.take q.length = q
    · rw [beq_list e, decide_eq_true e]; rfl
    · rw [bne_list e, decide_eq_false e]; rfl
  · rw [decide_eq_false (show ¬ (l.length : Int) ≥ (q.length : Int) by omega), cond_false, decide_eq_false (fun e => by
      have := congrArg List.length e
      rw [List.length_take] at this
      omega)]
    rfl
def cutV (s p : ByteArray) : ByteArray × Bool := match cutP p.data.toList s.data.toList with
  | some r => (ba r, true)
  | none => (s, false)
noncomputable def c_slCut : C_internal_stringslite_CutPrefix := { internal_stringslite_HasPrefix := w_internal_stringslite_HasPrefix }
noncomputable def w_internal_stringslite_CutPrefix (s p : ByteArray) (σ : Heap) : Option ((ByteArray × Bool) × Heap) := some (cutV s p, σ)
theorem ok_internal_stringslite_CutPrefix : Ok_internal_stringslite_CutPrefix w_internal_stringslite_CutPrefix := fun s p σ v σ' h => by
  injection h with h
  injection h with e1 e2
  subst e1; subst e2
  obtain ⟨l, rfl⟩ : ∃ l, s = ba l := ⟨_, ba_self s⟩
  obtain ⟨q, rfl⟩ : ∃ q, p = ba q := ⟨_, ba_self p⟩
  refine call_ok ok (K_internal_stringslite_CutPrefix c_slCut ok_internal_stringslite_HasPrefix) (L := 1) (n := 2) ((internal_stringslite_CutPrefix_eq c_slCut 1 (ba l) (ba q) σ _).trans ?_)
  have p1 : c_slCut.internal_stringslite_HasPrefix = w_internal_stringslite_HasPrefix := rfl
  rw [p1]
  unfold w_internal_stringslite_HasPrefix cutV cutP
  rw [Option.bind_some]
  simp only [ba_size, ba_data]
  by_cases e : l.take q.length = q
  · have hle : q.length ≤ l.length := by
      have := congrArg List.length e
      rw [List.length_take] at this
      omega
    have hx : (ba l).extract q.length l.length = ba (l.drop q.length) := by
      rw [ba_extract, List.take_of_length_le (by rw [List.length_drop]; exact Nat.le_refl _)]
    rw [decide_eq_true e, Bool.not_true, cond_false, dec0, Bool.true_and, le_true hle, Bool.true_and, le_true (Nat.le_refl _), cond_true, hx, if_pos e]
    rfl
  · rw [decide_eq_false e, Bool.not_false, cond_true, if_neg e]
    rfl
noncomputable def c_stCut : C_strings_CutPrefix := { internal_stringslite_CutPrefix := w_internal_stringslite_CutPrefix }
noncomputable def w_strings_CutPrefix (s p : ByteArray) (σ : Heap) : Option ((ByteArray × Bool) × Heap) := some (cutV s p, σ)
theorem ok_strings_CutPrefix : Ok_strings_CutPrefix w_strings_CutPrefix := fun s p σ v σ' h => by
  injection h with h
  injection h with e1 e2
  subst e1; subst e2
  exact call_ok ok (K_strings_CutPrefix c_stCut ok_internal_stringslite_CutPrefix) (L := 1) (n := 2) ((strings_CutPrefix_eq c_stCut 1 s p σ _).trans rfl)
/-! ### The reader -/
/-- What the reader has ahead, and whether all was well. -/
structure Rd where
  l : List UInt8
  ok : Bool
def Rd.row (r : Rd) : Blk := .row [.str (ba r.l), .bool r.ok] .rw
/-- Block b holds the reader; the tables are there. -/
structure RdAt (σ : Heap) (b : Nat) (r : Rd) : Prop where
  row : σ[b]? = some r.row
  len : r.l.length ≤ 1000000
  gu : GU σ
  ge : GE σ
theorem Rd.row_inj {r r' : Rd} (h : r.row = r'.row) : r = r' := by
  cases r; cases r'
  unfold Rd.row at h
  simp only [Blk.row.injEq, List.cons.injEq, AVal.str.injEq, AVal.bool.injEq, and_true] at h
  obtain ⟨h1, h2⟩ := h
  rw [ba_inj h1, h2]
theorem set_keep {σ : Heap} {b c : Nat} {x y z : Blk} (hb : σ[b]? = some y) (hc : σ[c]? = some x) (hn : x ≠ y) : (σ.set b z)[c]? = some x := by
  rw [List.getElem?_set_ne (fun e => ?_)]
  · exact hc
  · subst e
    rw [hb] at hc
    injection hc with hc
    exact hn hc.symm
theorem RdAt.set {σ : Heap} {b : Nat} {r : Rd} (h : RdAt σ b r) (r' : Rd) (hl : r'.l.length ≤ 1000000) : RdAt (σ.set b r'.row) b r' :=
  ⟨List.getElem?_set_self (List.getElem?_eq_some_iff.1 h.row).1, hl,
    ⟨set_keep h.row h.gu.1 (by unfold Rd.row; simp), set_keep h.row h.gu.2 (by unfold Rd.row; simp)⟩, ⟨set_keep h.row h.ge.1 (by unfold Rd.row; simp), set_keep h.row h.ge.2 (by unfold Rd.row; simp)⟩⟩
theorem RdAt.cell0 {σ : Heap} {b : Nat} {r : Rd} (h : RdAt σ b r) : Heap.cell? σ b 0 = some (.str (ba r.l)) := by
  unfold Heap.cell?
  rw [row?_of h.row (by decide)]
  rfl
theorem RdAt.cell1 {σ : Heap} {b : Nat} {r : Rd} (h : RdAt σ b r) : Heap.cell? σ b (0 + 1) = some (.bool r.ok) := by
  unfold Heap.cell?
  rw [row?_of h.row (by decide)]
  rfl
theorem RdAt.store0 {σ : Heap} {b : Nat} {r : Rd} (h : σ[b]? = some r.row) (l : List UInt8) : Heap.store σ b 0 [.str (ba l)] = some (σ.set b (Rd.row ⟨l, r.ok⟩)) := by
  unfold Heap.store
  rw [h]
  rfl
theorem RdAt.store1 {σ : Heap} {b : Nat} {r : Rd} (h : σ[b]? = some r.row) (o : Bool) : Heap.store σ b (0 + 1) [.bool o] = some (σ.set b (Rd.row ⟨r.l, o⟩)) := by
  unfold Heap.store
  rw [h]
  rfl
theorem RdAt.lt {σ : Heap} {b : Nat} {r : Rd} (h : RdAt σ b r) : b < σ.length := (List.getElem?_eq_some_iff.1 h.row).1
/-- Both cells are written. -/
theorem RdAt.store {R : Type} {σ : Heap} {b : Nat} {r : Rd} (h : RdAt σ b r) (l : List UInt8) (o : Bool) (K : Heap → Option R) :
    ((Heap.store σ b 0 [.str (ba l)]).bind fun σ9 => (Heap.store σ9 b (0 + 1) [.bool o]).bind K) = K (σ.set b (Rd.row ⟨l, o⟩)) := by
  rw [RdAt.store0 h.row, Option.bind_some, RdAt.store1 (r := ⟨l, r.ok⟩) (List.getElem?_set_self h.lt), Option.bind_some, List.set_set]
/-- What a method of the reader does. -/
def RdP (p : Pt) (σ : Heap) (x : Nat × Rd) : Prop := p = some (x.1, 0) ∧ RdAt σ x.1 x.2
noncomputable def wRd {β : Type} (f : Rd → β × Rd) (p : Pt) (σ : Heap) : Option (β × Heap) := wOf (RdP p σ) fun x => ((f x.2).1, σ.set x.1 (f x.2).2.row)
theorem wRd_eq {β : Type} {f : Rd → β × Rd} {b : Nat} {σ : Heap} {r : Rd} (h : RdAt σ b r) : wRd f (some (b, 0)) σ = some ((f r).1, σ.set b (f r).2.row) :=
  wOf_eq (P := RdP (some (b, 0)) σ) (f := fun x => ((f x.2).1, σ.set x.1 (f x.2).2.row)) (x := (b, r)) ⟨rfl, h⟩ fun ⟨b', r'⟩ ⟨h1, h2⟩ => by
    injection h1 with h1
    injection h1 with h1 _
    subst h1
    have := h2.row
    rw [h.row] at this
    injection this with this
    rw [Rd.row_inj this]
theorem wRd_some {β : Type} {f : Rd → β × Rd} {p : Pt} {σ σ' : Heap} {v : β} (h : wRd f p σ = some (v, σ')) : ∃ b r, p = some (b, 0) ∧ RdAt σ b r ∧ v = (f r).1 ∧ σ' = σ.set b (f r).2.row := by
  obtain ⟨⟨b, r⟩, ⟨h1, h2⟩, e⟩ := wOf_some h
  injection e with e1 e2
  exact ⟨b, r, h1, h2, e1.symm, e2.symm⟩
/-! skip -/
def rSkip (q : List UInt8) (r : Rd) : Rd := match cutP q r.l with
  | some l => ⟨l, r.ok⟩
  | none => ⟨r.l, false⟩
noncomputable def c_rskip : C_cast_reader_skip := { strings_CutPrefix := w_strings_CutPrefix }
noncomputable def w_cast_reader_skip (p : Pt) (q : ByteArray) (σ : Heap) : Option (Unit × Heap) := wRd (fun r => ((), rSkip q.data.toList r)) p σ
theorem w_skip_eq {q : List UInt8} {b : Nat} {σ : Heap} {r : Rd} (h : RdAt σ b r) : w_cast_reader_skip (some (b, 0)) (ba q) σ = some ((), σ.set b (rSkip q r).row) := by
  have := wRd_eq (f := fun r => ((), rSkip (ba q).data.toList r)) h
  rw [ba_data] at this
  unfold w_cast_reader_skip
  rw [ba_data]
  exact this
theorem bif_and (a b : Bool) : (bif a then b else false) = (a && b) := by cases a <;> rfl
theorem ok_cast_reader_skip : Ok_cast_reader_skip w_cast_reader_skip := fun p q σ v σ' h => by
  obtain ⟨b, r, rfl, hR, rfl, rfl⟩ := wRd_some h
  obtain ⟨q, rfl⟩ : ∃ l, q = ba l := ⟨_, ba_self q⟩
  refine call_ok ok (K_cast_reader_skip c_rskip ok_strings_CutPrefix) (L := 1) (n := 2) ((cast_reader_skip_eq c_rskip 1 (some (b, 0)) (ba q) σ _).trans ?_)
  have p1 : c_rskip.strings_CutPrefix = w_strings_CutPrefix := rfl
  rw [p1]
  simp only [Option.bind_some, hR.cell0, str?]
  unfold w_strings_CutPrefix
  simp only [Option.bind_some, hR.cell1, bool?, ba_data]
  unfold cutV rSkip
  rw [ba_data, ba_data]
  cases hc : cutP q r.l with
  | some l =>
    cases ho : r.ok with
    | true =>
      rw [cond_true]
      exact hR.store l true _
    | false =>
      rw [cond_false]
      exact hR.store l false _
  | none =>
    cases ho : r.ok with
    | true =>
      rw [cond_true]
      exact hR.store r.l false _
    | false =>
      rw [cond_false]
      exact hR.store r.l false _
/-! number, time, text -/
def rNum (r : Rd) : Int × Rd := match numL r.l with
  | some (n, l) => ((n : Int), ⟨l, r.ok⟩)
  | none => (0, ⟨[], false⟩)
def rTime (r : Rd) : Int × Rd := match untL r.l with
  | some (n, l) => ((n : Int), ⟨l, r.ok⟩)
  | none => (0, ⟨[], false⟩)
def rText (r : Rd) : ByteArray × Rd := match unqL r.l with
  | some (t, l) => (ba t, ⟨l, r.ok⟩)
  | none => (ba [], ⟨[], false⟩)
noncomputable def c_rnum : C_cast_reader_number := { json_Number := w_json_Number }
noncomputable def w_cast_reader_number (p : Pt) (σ : Heap) : Option (Int × Heap) := wRd rNum p σ
theorem ok_cast_reader_number : Ok_cast_reader_number w_cast_reader_number := fun p σ v σ' h => by
  obtain ⟨b, r, rfl, hR, rfl, rfl⟩ := wRd_some h
  refine call_ok ok (K_cast_reader_number c_rnum ok_json_Number) (L := 1) (n := 2) ((cast_reader_number_eq c_rnum 1 (some (b, 0)) σ _).trans ?_)
  have p1 : c_rnum.json_Number = w_json_Number := rfl
  rw [p1]
  simp only [Option.bind_some, hR.cell0, str?]
  rw [w_json_Number_eq hR.ge (by rw [ba_size]; exact hR.len)]
  simp only [Option.bind_some, hR.cell1, bool?]
  unfold numV rNum
  rw [ba_data]
  cases hc : numL r.l with
  | some x => cases ho : r.ok with
    | true => rw [cond_true]; exact hR.store x.2 true _
    | false => rw [cond_false]; exact hR.store x.2 false _
  | none => cases ho : r.ok with
    | true => rw [cond_true]; exact hR.store [] false _
    | false => rw [cond_false]; exact hR.store [] false _
noncomputable def c_rtime : C_cast_reader_time := { json_Untime := w_json_Untime }
noncomputable def w_cast_reader_time (p : Pt) (σ : Heap) : Option (Int × Heap) := wRd rTime p σ
theorem ok_cast_reader_time : Ok_cast_reader_time w_cast_reader_time := fun p σ v σ' h => by
  obtain ⟨b, r, rfl, hR, rfl, rfl⟩ := wRd_some h
  refine call_ok ok (K_cast_reader_time c_rtime ok_json_Untime) (L := 1) (n := 2) ((cast_reader_time_eq c_rtime 1 (some (b, 0)) σ _).trans ?_)
  have p1 : c_rtime.json_Untime = w_json_Untime := rfl
  rw [p1]
  simp only [Option.bind_some, hR.cell0, str?]
  rw [w_json_Untime_eq hR.ge (by rw [ba_size]; exact hR.len)]
  simp only [Option.bind_some, hR.cell1, bool?]
  unfold untV rTime
  rw [ba_data]
  cases hc : untL r.l with
  | some x => cases ho : r.ok with
    | true => rw [cond_true]; exact hR.store x.2 true _
    | false => rw [cond_false]; exact hR.store x.2 false _
  | none => cases ho : r.ok with
    | true => rw [cond_true]; exact hR.store [] false _
    | false => rw [cond_false]; exact hR.store [] false _
noncomputable def c_rtext : C_cast_reader_text := { json_Unquote := w_json_Unquote }
noncomputable def w_cast_reader_text (p : Pt) (σ : Heap) : Option (ByteArray × Heap) := wRd rText p σ
theorem ok_cast_reader_text : Ok_cast_reader_text w_cast_reader_text := fun p σ v σ' h => by
  obtain ⟨b, r, rfl, hR, rfl, rfl⟩ := wRd_some h
  refine call_ok ok (K_cast_reader_text c_rtext ok_json_Unquote) (L := 1) (n := 2) ((cast_reader_text_eq c_rtext 1 (some (b, 0)) σ _).trans ?_)
  have p1 : c_rtext.json_Unquote = w_json_Unquote := rfl
  rw [p1]
  simp only [Option.bind_some, hR.cell0, str?]
  rw [w_json_Unquote_eq hR.gu (by rw [ba_size]; exact hR.len)]
  simp only [Option.bind_some, hR.cell1, bool?]
  unfold unqV rText
  rw [ba_data]
  cases hc : unqL r.l with
  | some x => cases ho : r.ok with
    | true => rw [cond_true]; exact hR.store x.2 true _
    | false => rw [cond_false]; exact hR.store x.2 false _
  | none => cases ho : r.ok with
    | true => rw [cond_true]; exact hR.store [] false _
    | false => rw [cond_false]; exact hR.store [] false _
/-! kind -/
def kindOf (c : UInt8) : Option Nat := if c = 111 then some 0 else if c = 105 then some 1 else if c = 114 then some 2 else if c = 109 then some 3 else none
def kindL : List UInt8 → Option (Nat × List UInt8)
  | [] => none
  | c :: l => (kindOf c).map fun k => (k, l)
def rKind (r : Rd) : Int × Rd := match kindL r.l with
  | some (k, l) => ((k : Int), ⟨l, r.ok⟩)
  | none => (0, ⟨r.l, false⟩)
theorem rKind_some {r : Rd} {c : UInt8} {l : List UInt8} {k : Nat} (hl : r.l = c :: l) (hk : kindOf c = some k) : rKind r = ((k : Int), ⟨l, r.ok⟩) := by
  have e : kindL (c :: l) = some (k, l) := by rw [kindL, hk]; rfl
  unfold rKind
  rw [hl, e]
theorem rKind_none {r : Rd} {c : UInt8} {l : List UInt8} (hl : r.l = c :: l) (hk : kindOf c = none) : rKind r = (0, ⟨r.l, false⟩) := by
  have e : kindL (c :: l) = none := by rw [kindL, hk]; rfl
  unfold rKind
  rw [hl, e]
noncomputable def w_cast_reader_kind (p : Pt) (σ : Heap) : Option (Int × Heap) := wRd rKind p σ
theorem kind_hit {R : Type} {L m b : Nat} {σ : Heap} {r : Rd} {K : AVal → Heap → Option R} (hR : RdAt σ b r) {c : UInt8} {l : List UInt8} (hl : r.l = c :: l) (x : Nat) (hx : x < 4) :
    cast_reader_kind_L5 L (m + 1) (some (b, 0)) (x : Int) σ K = if (([111, 105, 114, 109] : List UInt8).getD x 0) = c then K (.int .i64 (x : Int)) (σ.set b (Rd.row ⟨l, r.ok⟩)) else cast_reader_kind_L5 L m (some (b, 0)) ((x + 1 : Nat) : Int) σ K := by
  rw [cast_reader_kind_L5_eq]
  have e1 : IntKind.i64.wrap ((x : Int) + 1) = ((x + 1 : Nat) : Int) := wrap_i64_succ x (by omega)
  rw [decide_eq_true (show (x : Int) < 4 by omega), cond_true, dec0, Bool.true_and, cond_true]
  simp only [Option.bind_some, hR.cell0, str?, ba_size, ba_data, hl, e1]
  rw [decide_eq_true (show (0 : Int) < ((c :: l).length : Int) by rw [List.length_cons]; omega), cond_true]
  have hb : ((⟨#[111, 105, 114, 109]⟩ : ByteArray).data.toList.getD (x : Int).toNat 0) = ([111, 105, 114, 109] : List UInt8).getD x 0 := rfl
  have hc : (c :: l).getD 0 0 = c := rfl
  rw [hb, hc]
  generalize ([111, 105, 114, 109] : List UInt8).getD x 0 = d
  by_cases e : d = c
  · rw [if_pos e, e, beq_self_eq_true, cond_true, le_true (Nat.le_refl _), Bool.and_true, decide_eq_true (show (1 : Int) ≤ ((c :: l).length : Int) by rw [List.length_cons]; omega), cond_true]
    have hx : (ba (c :: l)).extract 1 (c :: l).length = ba l := by
      rw [ba_extract, List.take_of_length_le (by rw [List.length_drop]; exact Nat.le_refl _)]
      rfl
    rw [hx, RdAt.store0 hR.row, Option.bind_some]
  · rw [if_neg e, show (((d.toNat : Nat) : Int) == ((c.toNat : Nat) : Int)) = false from beq_eq_false_iff_ne.2 fun h => e (UInt8.toNat_inj.1 (by omega)), cond_false]
theorem ok_cast_reader_kind : Ok_cast_reader_kind w_cast_reader_kind := fun p σ v σ' h => by
  obtain ⟨b, r, rfl, hR, rfl, rfl⟩ := wRd_some h
  refine call_ok ok known0_ok (L := 6) (n := 2) ((cast_reader_kind_eq 6 (some (b, 0)) σ _).trans ?_)
  simp only [Option.bind_some, hR.cell0, str?, ba_toList, ba_nil]
  cases hl : r.l with
  | nil =>
    rw [beq_self_eq_true, cond_true, RdAt.store1 hR.row, Option.bind_some]
    unfold rKind
    rw [hl]
    rfl
  | cons c l =>
    rw [bne_list (by simp), cond_false]
    have e0 := kind_hit (L := 6) (m := 5) (K := fun v σ => some (v, σ)) hR hl 0 (by decide)
    have e1 := kind_hit (L := 6) (m := 4) (K := fun v σ => some (v, σ)) hR hl 1 (by decide)
    have e2 := kind_hit (L := 6) (m := 3) (K := fun v σ => some (v, σ)) hR hl 2 (by decide)
    have e3 := kind_hit (L := 6) (m := 2) (K := fun v σ => some (v, σ)) hR hl 3 (by decide)
    have e4 : cast_reader_kind_L5 6 2 (some (b, 0)) ((4 : Nat) : Int) σ (fun v σ => some (v, σ)) = some (.int .i64 0, σ.set b (Rd.row ⟨r.l, false⟩)) := by
      rw [cast_reader_kind_L5_eq, show decide (((4 : Nat) : Int) < 4) = false from rfl, cond_false, Option.bind_some, RdAt.store1 hR.row, Option.bind_some]
    refine e0.trans ?_
    by_cases c0 : c = 111
    · rw [if_pos (show ([111, 105, 114, 109] : List UInt8).getD 0 0 = c from c0.symm), rKind_some hl (k := 0) (by unfold kindOf; rw [if_pos c0])]; rfl
    rw [if_neg (fun h => c0 h.symm), e1]
    by_cases c1 : c = 105
    · rw [if_pos (show ([111, 105, 114, 109] : List UInt8).getD 1 0 = c from c1.symm), rKind_some hl (k := 1) (by unfold kindOf; rw [if_neg c0, if_pos c1])]; rfl
    rw [if_neg (fun h => c1 h.symm), e2]
    by_cases c2 : c = 114
    · rw [if_pos (show ([111, 105, 114, 109] : List UInt8).getD 2 0 = c from c2.symm), rKind_some hl (k := 2) (by unfold kindOf; rw [if_neg c0, if_neg c1, if_pos c2])]; rfl
    rw [if_neg (fun h => c2 h.symm), e3]
    by_cases c3 : c = 109
    · rw [if_pos (show ([111, 105, 114, 109] : List UInt8).getD 3 0 = c from c3.symm), rKind_some hl (k := 3) (by unfold kindOf; rw [if_neg c0, if_neg c1, if_neg c2, if_pos c3])]; rfl
    rw [if_neg (fun h => c3 h.symm), e4, rKind_none hl (by unfold kindOf; rw [if_neg c0, if_neg c1, if_neg c2, if_neg c3])]
    rfl
end Go.Abs.TB
namespace Go.Abs.TB
open Go Go.Abs Go.Proofs

/-- One row is written; all that is new is forgotten. -/
theorem call_gcs {P : Program} {T : Tab} {f : FuncId} {xs : List AVal} {σ σ1 : Heap} {v : AVal} {b : Nat} {ys cs : List AVal} (h : CallOK P T f xs σ v σ1) (hb : σ[b]? = some (.row ys .rw)) (hk : ∀ c, c < σ.length → c ≠ b → σ1[c]? = σ[c]?)
    (hx : σ1[b]? = some (.row cs .rw)) (hf : flats cs = true) (hv : v.refs (· < σ.length)) : CallOK P T f xs σ v (σ.set b (.row cs .rw)) := by
  have hl := (List.getElem?_eq_some_iff.1 hb).1
  have hget : ∀ {c : Nat} {x : Blk}, (σ.set b (.row cs .rw))[c]? = some x → (c = b ∧ x = .row cs .rw) ∨ (c ≠ b ∧ σ[c]? = some x) := fun {c x} hc => by
    by_cases e : b = c
    · subst e
      rw [List.getElem?_set_self hl] at hc
      injection hc with hc
      exact .inl ⟨rfl, hc.symm⟩
    · rw [List.getElem?_set_ne e] at hc
      exact .inr ⟨fun h => e h.symm, hc⟩
  refine call_gc h (fun b => b) (by rw [List.length_set]; exact Nat.le_refl _) (fun _ _ => rfl) (fun _ _ _ _ h => h) (fun c x hc _ => ?_) (fun c x hc hr => ?_) (fun c x hc hr => ?_) (AVal.ren_id (fun _ => rfl) v).symm (by rw [List.length_set]; exact hv) (fun _ _ hc ht => tys_set rfl hc ht)
  · rcases hget hc with ⟨rfl, rfl⟩ | ⟨hne, hc⟩
    · exact .inl ⟨by simp only [hx, Blk.ren, flats_ren hf], flats_refs hf⟩
    · exact .inr ⟨hc, by rw [hk c (List.getElem?_eq_some_iff.1 hc).1 hne]; exact hc⟩
  · by_cases e : b = c
    · subst e
      rw [hb] at hc
      injection hc with hc
      subst hc
      cases hr
    · rw [List.getElem?_set_ne e]; exact hc
  · rcases hget hc with ⟨rfl, rfl⟩ | ⟨hne, hc⟩
    · cases hr
    · exact hc
/-! ### What is left grows shorter -/
theorem rSkip_len (q : List UInt8) (r : Rd) : (rSkip q r).l.length ≤ r.l.length := by
  unfold rSkip
  cases h : cutP q r.l with
  | some l => have := cutP_len h; show l.length ≤ _; omega
  | none => exact Nat.le_refl _
theorem rNum_len (r : Rd) : (rNum r).2.l.length ≤ r.l.length := by
  unfold rNum
  cases h : numL r.l with
  | some x =>
    obtain ⟨h1, _⟩ := numL_sound (n := x.1) (r := x.2) h
    have := congrArg List.length h1
    rw [List.length_append] at this
    show x.2.length ≤ _
    omega
  | none => exact Nat.zero_le _
theorem rTime_len (r : Rd) : (rTime r).2.l.length ≤ r.l.length := by
  unfold rTime
  cases h : untL r.l with
  | some x =>
    obtain ⟨h1, _⟩ := untL_sound (n := x.1) (r := x.2) h
    have := congrArg List.length h1
    rw [List.length_append] at this
    show x.2.length ≤ _
    omega
  | none => exact Nat.zero_le _
theorem sign_enc (n : Nat) : (encB n).length ≤ (signB n).length ∨ n = 34 ∨ n = 92 ∨ n = 10 ∨ n = 13 ∨ n < 32 ∨ n = 127 := by
  unfold signB
  by_cases h1 : n = 34 ∨ n = 92
  · rcases h1 with h | h
    · exact .inr (.inl h)
    · exact .inr (.inr (.inl h))
  by_cases h2 : n = 10
  · exact .inr (.inr (.inr (.inl h2)))
  by_cases h3 : n = 13
  · exact .inr (.inr (.inr (.inr (.inl h3))))
  by_cases h4 : n < 32 ∨ n = 127
  · rcases h4 with h | h
    · exact .inr (.inr (.inr (.inr (.inr (.inl h)))))
    · exact .inr (.inr (.inr (.inr (.inr (.inr h)))))
  · rw [if_neg h1, if_neg h2, if_neg h3, if_neg h4]
    exact .inl (Nat.le_refl _)
theorem enc_small : ∀ n : Fin 128, (encB n.val).length ≤ (signB n.val).length := by decide +kernel
theorem enc_small' (n : Nat) (h : n < 128) : (encB n).length ≤ (signB n).length := enc_small ⟨n, h⟩
theorem enc_sign (n : Nat) : (encB n).length ≤ (signB n).length := by
  rcases sign_enc n with h | h | h | h | h | h | h
  · exact h
  all_goals exact enc_small' n (by omega)
theorem text_short {t : List UInt8} (h : Lib.validD t = true) : t.length ≤ (quoteL t).length := by
  have e := enc_runes t.length t (Nat.le_refl _) h
  have : ∀ ns : List Nat, (ns.flatMap encB).length ≤ (ns.flatMap signB).length := fun ns => by
    induction ns with
    | nil => simp
    | cons n ns ih =>
      have := enc_sign n
      rw [List.flatMap_cons, List.flatMap_cons, List.length_append, List.length_append]
      omega
  have h2 := this (runesOf t)
  rw [e] at h2
  unfold quoteL
  rw [List.length_cons, List.length_append]
  omega
theorem rText_len (r : Rd) : (rText r).2.l.length ≤ r.l.length ∧ (rText r).1.data.toList.length ≤ r.l.length := by
  unfold rText
  cases h : unqL r.l with
  | some x =>
    obtain ⟨h1, h2⟩ := unqL_sound (t := x.1) (r := x.2) h
    have h3 := congrArg List.length h2
    have h4 := text_short h1
    rw [List.length_append] at h3
    show x.2.length ≤ _ ∧ (ba x.1).data.toList.length ≤ _
    rw [ba_data]
    omega
  | none => exact ⟨Nat.zero_le _, Nat.zero_le _⟩
theorem rKind_len (r : Rd) : (rKind r).2.l.length ≤ r.l.length := by
  cases h : r.l with
  | nil => unfold rKind; rw [h]; exact Nat.zero_le _
  | cons c l => cases hk : kindOf c with
    | some k => rw [rKind_some h hk, List.length_cons]; exact Nat.le_succ _
    | none => rw [rKind_none h hk, h]; exact Nat.le_refl _
/-! ### An event -/
def rEvent (r : Rd) : Ev × Rd :=
  let a := rTime (rSkip [91] r)
  let k := rKind (rSkip [44, 32, 34] a.2)
  let x := rText (rSkip [34, 44, 32] k.2)
  let s := rSkip [93, 10] x.2
  bif k.1 == 2 then
    let n1 := rNum ⟨x.1.data.toList, s.ok⟩
    let n2 := rNum (rSkip [120] n1.2)
    (⟨a.1, k.1, ⟨#[]⟩, n1.1, n2.1⟩, ⟨s.l, n2.2.ok && (n2.2.l == [])⟩)
  else (⟨a.1, k.1, x.1, 0, 0⟩, s)
def evA (e : Ev) : api_Event := ⟨e.t, e.k, e.s, e.w, e.h⟩
theorem rEvent_len (r : Rd) : (rEvent r).2.l.length ≤ r.l.length := by
  have h1 := rSkip_len [91] r
  have h2 := rTime_len (rSkip [91] r)
  have h3 := rSkip_len [44, 32, 34] (rTime (rSkip [91] r)).2
  have h4 := rKind_len (rSkip [44, 32, 34] (rTime (rSkip [91] r)).2)
  have h5 := rSkip_len [34, 44, 32] (rKind (rSkip [44, 32, 34] (rTime (rSkip [91] r)).2)).2
  have h6 := rText_len (rSkip [34, 44, 32] (rKind (rSkip [44, 32, 34] (rTime (rSkip [91] r)).2)).2)
  have h7 := rSkip_len [93, 10] (rText (rSkip [34, 44, 32] (rKind (rSkip [44, 32, 34] (rTime (rSkip [91] r)).2)).2)).2
  unfold rEvent
  dsimp only
  generalize rTime (rSkip [91] r) = A at *
  generalize rKind (rSkip [44, 32, 34] A.2) = B at *
  generalize rText (rSkip [34, 44, 32] B.2) = C at *
  generalize rSkip [93, 10] C.2 = S at *
  cases B.1 == 2 with
  | true => rw [cond_true]; show S.l.length ≤ _; omega
  | false => rw [cond_false]; show S.l.length ≤ _; omega
noncomputable def c_revent : C_cast_reader_event := { cast_reader_skip := w_cast_reader_skip, cast_reader_number := w_cast_reader_number, cast_reader_time := w_cast_reader_time, cast_reader_kind := w_cast_reader_kind, cast_reader_text := w_cast_reader_text }
noncomputable def w_cast_reader_event (p : Pt) (σ : Heap) : Option (api_Event × Heap) := wRd (fun r => (evA (rEvent r).1, (rEvent r).2)) p σ
theorem at_eq {β : Type} {f : Rd → β × Rd} {σ : Heap} {b : Nat} {r0 : Rd} (h : RdAt σ b r0) (r : Rd) (hl : r.l.length ≤ 1000000) : wRd f (some (b, 0)) (σ.set b r.row) = some ((f r).1, σ.set b (f r).2.row) := by
  rw [wRd_eq (h.set r hl), List.set_set]
theorem at_skip {q : List UInt8} {σ : Heap} {b : Nat} {r0 : Rd} (h : RdAt σ b r0) (r : Rd) (hl : r.l.length ≤ 1000000) : w_cast_reader_skip (some (b, 0)) (ba q) (σ.set b r.row) = some ((), σ.set b (rSkip q r).row) := by
  rw [w_skip_eq (h.set r hl), List.set_set]
theorem RdAt.self {σ : Heap} {b : Nat} {r : Rd} (h : RdAt σ b r) : σ.set b r.row = σ := by
  apply List.ext_getElem?
  intro i
  by_cases hi : i = b
  · subst hi
    rw [List.getElem?_set_self h.lt, h.row]
  · rw [List.getElem?_set_ne (Ne.symm hi)]
theorem RdAt.push {σ : Heap} {b : Nat} {r : Rd} (h : RdAt σ b r) (r' : Rd) (hl : r'.l.length ≤ 1000000) : RdAt (σ ++ [r'.row]) σ.length r' :=
  ⟨get_push .., hl, h.gu.pre (pre_push ..), h.ge.pre (pre_push ..)⟩
theorem ok_cast_reader_event : Ok_cast_reader_event w_cast_reader_event := fun p σ v σ' h => by
  obtain ⟨b, r, rfl, hR, rfl, rfl⟩ := wRd_some h
  have hK := K_cast_reader_event c_revent ok_cast_reader_skip ok_cast_reader_number ok_cast_reader_time ok_cast_reader_kind ok_cast_reader_text
  have hr := cast_reader_event_eq (R := AVal × Heap) c_revent 1 (some (b, 0)) σ fun v σ => some (v, σ)
  have p1 : c_revent.cast_reader_skip = w_cast_reader_skip := rfl
  have p2 : c_revent.cast_reader_number = w_cast_reader_number := rfl
  have p3 : c_revent.cast_reader_time = w_cast_reader_time := rfl
  have p4 : c_revent.cast_reader_kind = w_cast_reader_kind := rfl
  have p5 : c_revent.cast_reader_text = w_cast_reader_text := rfl
  have l1 : (⟨#[91]⟩ : ByteArray) = ba [91] := rfl
  have l2 : (⟨#[44, 32, 34]⟩ : ByteArray) = ba [44, 32, 34] := rfl
  have l3 : (⟨#[34, 44, 32]⟩ : ByteArray) = ba [34, 44, 32] := rfl
  have l4 : (⟨#[93, 10]⟩ : ByteArray) = ba [93, 10] := rfl
  have l5 : (⟨#[120]⟩ : ByteArray) = ba [120] := rfl
  have hlen := hR.len
  have h1 := rSkip_len [91] r
  have h2 := rTime_len (rSkip [91] r)
  have h3 := rSkip_len [44, 32, 34] (rTime (rSkip [91] r)).2
  have h4 := rKind_len (rSkip [44, 32, 34] (rTime (rSkip [91] r)).2)
  have h5 := rSkip_len [34, 44, 32] (rKind (rSkip [44, 32, 34] (rTime (rSkip [91] r)).2)).2
  have h6 := rText_len (rSkip [34, 44, 32] (rKind (rSkip [44, 32, 34] (rTime (rSkip [91] r)).2)).2)
  have h7 := rSkip_len [93, 10] (rText (rSkip [34, 44, 32] (rKind (rSkip [44, 32, 34] (rTime (rSkip [91] r)).2)).2)).2
  have a1 : w_cast_reader_skip (some (b, 0)) (ba [91]) σ = some ((), σ.set b (rSkip [91] r).row) := w_skip_eq hR
  rw [p1, p2, p3, p4, p5, l1, l2, l3, l4, l5, a1] at hr
  simp only [Option.bind_some] at hr
  have a2 : w_cast_reader_time (some (b, 0)) (σ.set b (rSkip [91] r).row) = _ := at_eq hR _ (by omega)
  rw [a2, Option.bind_some] at hr
  dsimp only at hr
  generalize e2 : rTime (rSkip [91] r) = A at *
  rw [at_skip hR A.2 (by omega), Option.bind_some] at hr
  dsimp only at hr
  have a4 : w_cast_reader_kind (some (b, 0)) (σ.set b (rSkip [44, 32, 34] A.2).row) = _ := at_eq hR _ (by omega)
  rw [a4, Option.bind_some] at hr
  dsimp only at hr
  generalize e4 : rKind (rSkip [44, 32, 34] A.2) = B at *
  rw [at_skip hR B.2 (by omega), Option.bind_some] at hr
  dsimp only at hr
  have a6 : w_cast_reader_text (some (b, 0)) (σ.set b (rSkip [34, 44, 32] B.2).row) = _ := at_eq hR _ (by omega)
  rw [a6, Option.bind_some] at hr
  dsimp only at hr
  generalize e6 : rText (rSkip [34, 44, 32] B.2) = C at *
  rw [at_skip hR C.2 (by omega), Option.bind_some] at hr
  dsimp only at hr
  have eE : rEvent r = (bif B.1 == 2 then
      ((⟨A.1, B.1, ⟨#[]⟩, (rNum ⟨C.1.data.toList, (rSkip [93, 10] C.2).ok⟩).1, (rNum (rSkip [120] (rNum ⟨C.1.data.toList, (rSkip [93, 10] C.2).ok⟩).2)).1⟩ : Ev), (⟨(rSkip [93, 10] C.2).l, (rNum (rSkip [120] (rNum ⟨C.1.data.toList, (rSkip [93, 10] C.2).ok⟩).2)).2.ok && ((rNum (rSkip [120] (rNum ⟨C.1.data.toList, (rSkip [93, 10] C.2).ok⟩).2)).2.l == [])⟩ : Rd))
    else (⟨A.1, B.1, C.1, 0, 0⟩, rSkip [93, 10] C.2)) := by
    unfold rEvent
    dsimp only
    rw [e2, e4, e6]
  generalize eS : rSkip [93, 10] C.2 = S at *
  have hS := hR.set S (by omega)
  rw [eE]
  cases hk : B.1 == 2 with
  | false =>
    rw [hk, cond_false] at hr
    rw [cond_false]
    exact call_ok ok hK hr
  | true =>
    have bb : ∀ x, bool? (some (AVal.bool x)) = some x := fun _ => rfl
    have ss : ∀ x, str? (some (AVal.str x)) = some x := fun _ => rfl
    rw [hk, cond_true, hS.cell1, bb, Option.bind_some] at hr
    rw [cond_true]
    have hp : RdAt (σ.set b S.row ++ [Rd.row ⟨C.1.data.toList, S.ok⟩]) (σ.set b S.row).length ⟨C.1.data.toList, S.ok⟩ := hS.push _ (by show C.1.data.toList.length ≤ 1000000; omega)
    have hst : Heap.store (Heap.back (σ.set b S.row) (Heap.frz (σ.set b S.row) ++ [.row [.str (⟨#[]⟩ : ByteArray), .bool false] .rw])) (σ.set b S.row).length 0 [.str C.1, .bool S.ok] = some (σ.set b S.row ++ [Rd.row ⟨C.1.data.toList, S.ok⟩]) := by
      rw [back_push]
      unfold Heap.store
      rw [get_push]
      show some (List.set (σ.set b S.row ++ [Blk.row [.str (⟨#[]⟩ : ByteArray), .bool false] .rw]) (σ.set b S.row).length (.row [.str C.1, .bool S.ok] .rw)) = _
      rw [List.set_append_right _ _ (Nat.le_refl _), Nat.sub_self]
      unfold Rd.row
      rw [← ba_self]
      rfl
    unfold alloc at hr
    rw [len_frz] at hr
    dsimp only at hr
    rw [hst, Option.bind_some] at hr
    generalize hQ : σ.set b S.row ++ [Rd.row ⟨C.1.data.toList, S.ok⟩] = σ8 at *
    generalize hc : (σ.set b S.row).length = c at *
    have n1 := rNum_len ⟨C.1.data.toList, S.ok⟩
    have n2 := rSkip_len [120] (rNum ⟨C.1.data.toList, S.ok⟩).2
    have n3 := rNum_len (rSkip [120] (rNum ⟨C.1.data.toList, S.ok⟩).2)
    have z1 : w_cast_reader_number (some (c, 0)) σ8 = some ((rNum ⟨C.1.data.toList, S.ok⟩).1, σ8.set c (rNum ⟨C.1.data.toList, S.ok⟩).2.row) := wRd_eq hp
    rw [z1, Option.bind_some] at hr
    dsimp only at hr
    generalize rNum ⟨C.1.data.toList, S.ok⟩ = N1 at *
    dsimp only at n1
    rw [at_skip hp N1.2 (by omega), Option.bind_some] at hr
    dsimp only at hr
    have z3 : w_cast_reader_number (some (c, 0)) (σ8.set c (rSkip [120] N1.2).row) = some ((rNum (rSkip [120] N1.2)).1, σ8.set c (rNum (rSkip [120] N1.2)).2.row) := at_eq hp _ (by omega)
    rw [z3, Option.bind_some] at hr
    dsimp only at hr
    generalize rNum (rSkip [120] N1.2) = N2 at *
    have hp2 := hp.set N2.2 (by omega)
    have hne : b ≠ c := by have := hR.lt; rw [← hc, List.length_set]; omega
    have hbS : (σ8.set c N2.2.row)[b]? = some S.row := by
      rw [List.getElem?_set_ne (Ne.symm hne), ← hQ, List.getElem?_append_left (by rw [List.length_set]; exact hR.lt), List.getElem?_set_self hR.lt]
    have hfin : ∀ o, CallOK Tryd.prog T 38 [.ptr (some (b, 0))] σ (t_api_Event.av (evA ⟨A.1, B.1, ⟨#[]⟩, N1.1, N2.1⟩)) ((σ8.set c N2.2.row).set b (Rd.row ⟨S.l, o⟩)) → CallOK Tryd.prog T 38 [.ptr (some (b, 0))] σ (t_api_Event.av (evA ⟨A.1, B.1, ⟨#[]⟩, N1.1, N2.1⟩)) (σ.set b (Rd.row ⟨S.l, o⟩)) := fun o hcall =>
      call_gcs hcall hR.row (fun d hd hdb => by
        have : d ≠ c := by rw [← hc, List.length_set]; omega
        rw [List.getElem?_set_ne (Ne.symm hdb), List.getElem?_set_ne (Ne.symm this), ← hQ, List.getElem?_append_left (by rw [List.length_set]; exact hd), List.getElem?_set_ne (Ne.symm hdb)]) (List.getElem?_set_self (List.getElem?_eq_some_iff.1 hbS).1) rfl (by simp [t_api_Event, evA, api_Event.cells, tStruct, AVal.refs, refss])
    have c1 : Heap.cell? (σ8.set c N2.2.row) c 1 = some (.bool N2.2.ok) := hp2.cell1
    rw [c1, bb, Option.bind_some] at hr
    cases ho : N2.2.ok with
    | true =>
      rw [ho, cond_true, hp2.cell0, ss, Option.bind_some] at hr
      rw [RdAt.store1 hbS, Option.bind_some, ba_toList, ba_nil, ba_toList] at hr
      rw [Bool.true_and]
      exact hfin _ (call_ok ok hK hr)
    | false =>
      rw [ho, cond_false, RdAt.store1 hbS, Option.bind_some] at hr
      rw [Bool.false_and]
      exact hfin _ (call_ok ok hK hr)
end Go.Abs.TB
namespace Go.Abs.TB
open Go Go.Abs Go.Proofs

/-! ### Right, List -/
def rightA (e : api_Event) : Bool :=
  bif decide (e.Time < 0) then false else bif decide (e.Time ≥ 4611686018427387904) then false else bif decide ((e.Data.size : Int) > 400) then false else
  bif e.Kind == 2 then (bif e.Data.toList == (⟨#[]⟩ : ByteArray).toList then (bif decide (e.W ≥ 1) then (bif decide (e.H ≥ 1) then (bif decide (e.W ≤ 1000) then decide (e.H ≤ 1000) else false) else false) else false) else false)
  else bif e.Kind == 0 then (bif e.W == 0 then e.H == 0 else false) else bif e.Kind == 1 then (bif e.W == 0 then e.H == 0 else false) else bif e.Kind == 3 then (bif e.W == 0 then e.H == 0 else false) else false
noncomputable def w_event_Right (a : api_Event) (σ : Heap) : Option (Bool × Heap) := some (rightA a, σ)
theorem cond_K (b x y : Bool) (σ : Heap) : (bif b then some (AVal.bool x, σ) else some (AVal.bool y, σ)) = some (AVal.bool (bif b then x else y), σ) := by cases b <;> rfl
theorem ok_event_Right : Ok_event_Right w_event_Right := fun a σ v σ' h => by
  injection h with h
  injection h with e1 e2
  subst e1; subst e2
  refine call_ok ok known0_ok (L := 1) (n := 2) ((event_Right_eq 1 a σ _).trans ?_)
  simp only [cond_K]
  rfl
def listB : Int → List Ev → Bool
  | _, [] => true
  | last, e :: es => bif !rightA (evA e) then false else bif decide (e.t < last) then false else listB e.t es
noncomputable def c_elist : C_event_List := { event_Right := w_event_Right }
theorem List_loop {L : Nat} {l : Sl} {σ : Heap} {es : List Ev} (hl : l.Is eEv σ es) (hn : es.length ≤ 2000000) :
    ∀ (m i : Nat) (last : Int), es.length - i < m → i ≤ es.length → event_List_L3 c_elist L m last l (i : Int) σ (fun v σ => some (v, σ)) = some (.bool (listB last (es.drop i)), σ)
  | 0, _, _, h, _ => by omega
  | m + 1, i, last, hm, hi => by
    have q1 : c_elist.event_Right = w_event_Right := rfl
    rw [event_List_L3_eq, q1, hl.n]
    by_cases h : i < es.length
    · have hge : es[i]? = some es[i] := List.getElem?_eq_getElem h
      have hdrop : es.drop i = es[i] :: es.drop (i + 1) := List.drop_eq_getElem_cons h
      generalize es[i] = e at hge hdrop
      obtain ⟨lb, hb, hc⟩ := hl.cell hge
      have c0 := hc 0 (by decide); have c1 := hc 1 (by decide); have c2 := hc 2 (by decide); have c3 := hc 3 (by decide); have c4 := hc 4 (by decide)
      change Heap.cell? σ lb (l.o + i * 5 + 0) = some (AVal.int .i64 e.t) at c0
      change Heap.cell? σ lb (l.o + i * 5 + 1) = some (AVal.int .i64 e.k) at c1
      change Heap.cell? σ lb (l.o + i * 5 + 2) = some (AVal.str e.s) at c2
      change Heap.cell? σ lb (l.o + i * 5 + 3) = some (AVal.int .i64 e.w) at c3
      change Heap.cell? σ lb (l.o + i * 5 + 4) = some (AVal.int .i64 e.h) at c4
      rw [Nat.add_zero] at c0
      have hnext : IntKind.i64.wrap ((i : Int) + 1) = ((i + 1 : Nat) : Int) := wrap_i64_succ i (by omega)
      rw [lt_true h, cond_true, dec0, Bool.true_and, cond_true, hb, Option.bind_some, Int.toNat_natCast, c0, c1, c2, c3, c4]
      simp only [int?, str?, Option.bind_some, if_true, hnext]
      unfold w_event_Right
      rw [Option.bind_some, hdrop, listB]
      dsimp only
      change (bif !rightA (evA e) then _ else _) = _
      cases rightA (evA e) with
      | false => rfl
      | true =>
        rw [Bool.not_true, cond_false, cond_false]
        cases decide (e.t < last) with
        | true => rfl
        | false => rw [cond_false, cond_false]; exact List_loop hl hn m (i + 1) e.t (by omega) (by omega)
    · rw [lt_false h, cond_false, List.drop_of_length_le (by omega)]
      rfl
noncomputable def w_event_List (l : Sl) (σ : Heap) : Option (Bool × Heap) := wOf (fun es : List Ev => l.Is eEv σ es ∧ es.length ≤ 2000000) fun es => (listB 0 es, σ)
theorem w_event_List_eq {l : Sl} {σ : Heap} {es : List Ev} (h : l.Is eEv σ es) (hn : es.length ≤ 2000000) : w_event_List l σ = some (listB 0 es, σ) := wOf_eq (P := fun es : List Ev => l.Is eEv σ es ∧ es.length ≤ 2000000) (f := fun es => (listB 0 es, σ)) ⟨h, hn⟩ fun es' h' => by rw [h'.1.uniq (by decide) h]
theorem ok_event_List : Ok_event_List w_event_List := fun l σ v σ' hx => by
  obtain ⟨es, ⟨hl, hn⟩, e⟩ := wOf_some hx
  injection e with e1 e2
  subst e1; subst e2
  exact call_ok ok (K_event_List c_elist ok_event_Right) (L := 2000001) (n := 2) ((event_List_eq c_elist 2000001 l σ _).trans (List_loop hl hn 2000001 0 0 (by omega) (by omega)))
/-! ### Import -/
def impGo : Nat → Rd → List Ev → Option (Option (List Ev))
  | 0, _, _ => none
  | m + 1, r, acc => bif r.ok && !(r.l == []) then impGo m (rEvent r).2 (acc ++ [(rEvent r).1]) else some (bif r.ok && listB 0 acc then some acc else none)
def lit1 : List UInt8 := [123, 34, 118, 101, 114, 115, 105, 111, 110, 34, 58, 32, 50, 44, 32, 34, 119, 105, 100, 116, 104, 34, 58, 32]
def lit2 : List UInt8 := [44, 32, 34, 104, 101, 105, 103, 104, 116, 34, 58, 32]
def impN1 (l : List UInt8) : Int × Rd := rNum (rSkip lit1 ⟨l, true⟩)
def impN2 (l : List UInt8) : Int × Rd := rNum (rSkip lit2 (impN1 l).2)
def impF (l : List UInt8) : Option (Option (List Ev)) := impGo 1000001 (rSkip [125, 10] (impN2 l).2) []
noncomputable def c_import : C_cast_Import := { cast_reader_skip := w_cast_reader_skip, cast_reader_number := w_cast_reader_number, cast_reader_event := w_cast_reader_event, event_List := w_event_List }
theorem Own.set {s : Sl} {σ : Heap} {xs : List Ev} {b : Nat} {x : Blk} (h : s.Own eEv σ xs) (hne : s.b ≠ some b) : s.Own eEv (σ.set b x) xs := by
  cases h with
  | nil h1 h2 h3 h4 => exact .nil h1 h2 h3 h4
  | row c h1 h2 h3 h4 => exact .row c h1 h2 h3 (by rw [List.getElem?_set_ne (fun e => hne (by rw [h1, e]))]; exact h4)
/-- What Import has made so far. -/
structure ImpAt (σ0 : Heap) (out : Sl) (σ : Heap) (r : Rd) (acc : List Ev) : Prop where
  rd : RdAt σ σ0.length r
  own : out.Own eEv σ acc
  new : ∀ c, out.b = some c → σ0.length < c
  old : ∀ c, c < σ0.length → σ[c]? = σ0[c]?
  lt : σ0.length < σ.length
  ne : out.b ≠ none → acc ≠ []
/-- .. and in the end. -/
def ImpEnd (σ0 : Heap) (w h : Int) (x : Option (List Ev)) (v : AVal) (σ : Heap) : Prop := (∀ c, c < σ0.length → σ[c]? = σ0[c]?) ∧ match x with
  | some es => ∃ out : Sl, v = .tuple [.int .i64 w, .int .i64 h, .slice out.b out.o out.n 5, .int .i64 0] ∧ out.Own eEv σ es ∧ (∀ c, out.b = some c → σ0.length < c) ∧ (out.b ≠ none → es ≠ [])
  | none => v = .tuple [.int .i64 0, .int .i64 0, .slice none 0 0 5, .int .i64 1]
theorem Import_loop {L : Nat} {σ0 : Heap} {w h : Int} : ∀ (m : Nat) (out : Sl) (σ : Heap) (r : Rd) (acc : List Ev) {x : Option (List Ev)}, ImpAt σ0 out σ r acc → acc.length + m ≤ 1100000 → impGo m r acc = some x →
    ∃ v σ', ImpEnd σ0 w h x v σ' ∧ cast_Import_L8 c_import L m σ0.length w h out σ (fun v σ => some (v, σ)) = some (v, σ')
  | 0, _, _, _, _, _, _, _, hx => by cases hx
  | m + 1, out, σ, r, acc, x, hI, hm, hx => by
    have p3 : c_import.cast_reader_event = w_cast_reader_event := rfl
    have p4 : c_import.event_List = w_event_List := rfl
    have bb : ∀ x, bool? (some (AVal.bool x)) = some x := fun _ => rfl
    have ss : ∀ x, str? (some (AVal.str x)) = some x := fun _ => rfl
    have k1 : Heap.cell? σ σ0.length 1 = some (.bool r.ok) := hI.rd.cell1
    rw [cast_Import_L8_eq, p3, p4, k1, bb, Option.bind_some, hI.rd.cell0, ss, Option.bind_some, ba_toList, ba_nil, ba_toList]
    rw [impGo] at hx
    have hL := w_event_List_eq (hI.own.is (by omega)) (by omega)
    have hend : r.ok = true → x = (bif r.ok && listB 0 acc then some acc else none) → ∃ v σ', ImpEnd σ0 w h x v σ' ∧ ((w_event_List out σ).bind fun q14 =>
        bif (!q14.1) then some (.tuple [.int .i64 0, .int .i64 0, .slice none 0 0 5, .int .i64 1], q14.2)
        else some (.tuple [.int .i64 w, .int .i64 h, .slice out.b out.o out.n 5, .int .i64 0], q14.2)) = some (v, σ') := fun ho hx => by
      rw [ho, Bool.true_and] at hx
      rw [hL, Option.bind_some]
      subst hx
      cases hb : listB 0 acc with
      | true => exact ⟨_, _, ⟨hI.old, out, rfl, hI.own, hI.new, hI.ne⟩, rfl⟩
      | false => exact ⟨_, _, ⟨hI.old, rfl⟩, rfl⟩
    cases ho : r.ok with
    | false =>
      rw [ho, Bool.false_and, cond_false, Bool.false_and, cond_false] at hx
      injection hx with hx
      subst hx
      rw [cond_false, Option.bind_some, Bool.not_false, cond_true]
      exact ⟨_, _, ⟨hI.old, rfl⟩, rfl⟩
    | true =>
      rw [cond_true]
      cases hn : r.l == [] with
      | true =>
        rw [ho, hn, Bool.true_and, Bool.not_true, cond_false] at hx
        injection hx with hx
        rw [Bool.not_true, cond_false, Option.bind_some, Bool.not_true, cond_false]
        exact hend ho (by rw [ho]; exact hx.symm)
      | false =>
        rw [ho, hn, Bool.true_and, Bool.not_false, cond_true] at hx
        rw [Bool.not_false, cond_true]
        have he : w_cast_reader_event (some (σ0.length, 0)) σ = some (evA (rEvent r).1, σ.set σ0.length (rEvent r).2.row) := wRd_eq (f := fun r => (evA (rEvent r).1, (rEvent r).2)) hI.rd
        rw [he, Option.bind_some]
        have hne : out.b ≠ some σ0.length := fun e => absurd (hI.new _ e) (Nat.lt_irrefl _)
        have hlen := rEvent_len r
        have hR2 := hI.rd.set (rEvent r).2 (by have := hI.rd.len; omega)
        obtain ⟨q, σ', a1, a2, a3, a4⟩ := append_own (Own.set (x := (rEvent r).2.row) hI.own hne) (ys := [(rEvent r).1]) (bytes := 48) (vs := eEv.en (rEvent r).1) (k := 1) (by rw [El.all_cons, El.all_nil, List.append_nil]) rfl (by simp only [List.length_singleton]; omega) (by simp only [List.length_singleton]; omega)
        have a1' : Heap.append (σ.set σ0.length (rEvent r).2.row) out.b out.o out.n 5 48 [.int .i64 (evA (rEvent r).1).Time, .int .i64 (evA (rEvent r).1).Kind, .str (evA (rEvent r).1).Data, .int .i64 (evA (rEvent r).1).W, .int .i64 (evA (rEvent r).1).H] 1 = some (q, σ') := a1
        rw [a1', Option.bind_some]
        have hset : (σ.set σ0.length (rEvent r).2.row).length = σ.length := List.length_set ..
        have hlt := hI.lt
        have hold : ∀ c, c < σ0.length → σ'[c]? = σ0[c]? := fun c hc => by
          rw [a3.at_ c (by rw [hset]; omega) (fun e => by have := hI.new c e; omega), List.getElem?_set_ne (by omega)]
          exact hI.old c hc
        have hrow : σ'[σ0.length]? = some (rEvent r).2.row := by
          rw [a3.at_ _ (by rw [hset]; omega) hne]
          exact hR2.row
        have hkeep : ∀ {c : Nat} {y : Blk}, c < σ0.length → σ[c]? = some y → σ'[c]? = some y := fun {c y} hc hy => by rw [hold c hc, ← hI.old c hc]; exact hy
        have hlow : ∀ {c : Nat} {cs : List AVal}, σ[c]? = some (.row cs .ro) → out.b ≠ some c → σ'[c]? = some (.row cs .ro) := fun {c cs} hc hob => by
          rw [a3.at_ c (by rw [hset]; exact (List.getElem?_eq_some_iff.1 hc).1) hob, List.getElem?_set_ne (fun e => by
            subst e
            rw [hI.rd.row] at hc
            injection hc with hc
            cases hc)]
          exact hc
        have hob : ∀ {c : Nat} {cs : List AVal}, σ[c]? = some (.row cs .ro) → out.b ≠ some c := fun {c cs} hc e => by
          cases hI.own with
          | nil h1 _ _ _ => rw [h1] at e; cases e
          | row d h1 _ _ h4 =>
            rw [h1] at e
            injection e with e
            subst e
            rw [h4] at hc
            injection hc with hc
            cases hc
        have hR3 : RdAt σ' σ0.length (rEvent r).2 := ⟨hrow, hR2.len, ⟨hlow hI.rd.gu.1 (hob hI.rd.gu.1), hlow hI.rd.gu.2 (hob hI.rd.gu.2)⟩, ⟨hlow hI.rd.ge.1 (hob hI.rd.ge.1), hlow hI.rd.ge.2 (hob hI.rd.ge.2)⟩⟩
        exact Import_loop m _ σ' (rEvent r).2 _ ⟨hR3, a2, fun c hc => by
          rcases a4 c hc with h1 | h1
          · exact hI.new c h1
          · omega, hold, (List.getElem?_eq_some_iff.1 hrow).1, fun _ => by simp⟩ (by rw [List.length_append, List.length_singleton]; omega) hx
def impV (l : List UInt8) (σ : Heap) (es : Option (List Ev)) : (Int × Int × Sl × Int) × Heap := match es with
  | some es => (((impN1 l).1, (impN2 l).1, (fresh eEv σ es.isEmpty es).1, 0), (fresh eEv σ es.isEmpty es).2)
  | none => ((0, 0, ⟨none, 0, 0⟩, 1), σ)
def ImpP (s : ByteArray) (σ : Heap) (x : Option (List Ev)) : Prop := GU σ ∧ GE σ ∧ s.size ≤ 1000000 ∧ impF s.data.toList = some x
noncomputable def w_cast_Import (s : ByteArray) (σ : Heap) : Option ((Int × Int × Sl × Int) × Heap) := wOf (ImpP s σ) (impV s.data.toList σ)
theorem w_cast_Import_eq {s : ByteArray} {σ : Heap} {x : Option (List Ev)} (h : ImpP s σ x) : w_cast_Import s σ = some (impV s.data.toList σ x) := wOf_eq (P := ImpP s σ) h fun y h' => by
  have := h'.2.2.2
  rw [h.2.2.2] at this
  injection this with this
  rw [this]
theorem own_none {s : Sl} {σ : Heap} {xs : List Ev} (h : s.Own eEv σ xs) (hb : s.b = none) : s = ⟨none, 0, 0⟩ ∧ xs = [] := by
  cases h with
  | nil h1 h2 h3 h4 => cases s; simp only at h1 h2 h3; subst h1; subst h2; subst h3; exact ⟨rfl, h4⟩
  | row c h1 _ _ _ => rw [h1] at hb; cases hb
/-- A list that has come is nil, or has elements. -/
theorem ok_cast_Import : Ok_cast_Import w_cast_Import := fun s σ v σ' hx => by
  obtain ⟨x, ⟨hu, he, hs, hf⟩, e⟩ := wOf_some hx
  obtain ⟨l, rfl⟩ : ∃ l, s = ba l := ⟨_, ba_self s⟩
  rw [ba_data] at e hf
  rw [ba_size] at hs
  have hK := K_cast_Import c_import ok_cast_reader_skip ok_cast_reader_number ok_cast_reader_event ok_event_List
  have p1 : c_import.cast_reader_skip = w_cast_reader_skip := rfl
  have p2 : c_import.cast_reader_number = w_cast_reader_number := rfl
  have hr := cast_Import_eq (R := AVal × Heap) c_import 1000001 (ba l) σ fun v σ => some (v, σ)
  have hR : RdAt (σ ++ [Rd.row ⟨l, true⟩]) σ.length ⟨l, true⟩ := ⟨get_push .., hs, hu.pre (pre_push ..), he.pre (pre_push ..)⟩
  have hcore : ∃ v1 σ1, ImpEnd σ (impN1 l).1 (impN2 l).1 x v1 σ1 ∧ callC T (O_cast_Import c_import) 1000001 2 26 [.str (ba l)] σ (fun v σ => some (v, σ)) = some (v1, σ1) := by
    have h1 := rSkip_len lit1 ⟨l, true⟩
    have h2 := rNum_len (rSkip lit1 ⟨l, true⟩)
    have h3 := rSkip_len lit2 (impN1 l).2
    have h4 := rNum_len (rSkip lit2 (impN1 l).2)
    have h5 := rSkip_len [125, 10] (impN2 l).2
    dsimp only at h1
    change (impN1 l).2.l.length ≤ _ at h2
    change (impN2 l).2.l.length ≤ _ at h4
    unfold impF at hf
    have hIA : ImpAt σ ⟨none, 0, 0⟩ ((σ ++ [Rd.row ⟨l, true⟩]).set σ.length (rSkip [125, 10] (impN2 l).2).row) (rSkip [125, 10] (impN2 l).2) [] :=
      ⟨hR.set _ (by omega), .nil rfl rfl rfl rfl, fun c hc => (by cases hc), fun c hc => by rw [List.getElem?_set_ne (by omega), List.getElem?_append_left hc], by rw [List.length_set, List.length_append, List.length_singleton]; omega, fun h => absurd rfl h⟩
    obtain ⟨v1, σ1, g1, g2⟩ := Import_loop (L := 1000001) (w := (impN1 l).1) (h := (impN2 l).1) 1000001 ⟨none, 0, 0⟩ _ _ [] hIA (by simp) hf
    refine ⟨v1, σ1, g1, hr.trans ?_⟩
    rw [p1, p2]
    unfold alloc
    have l1 : (⟨#[123, 34, 118, 101, 114, 115, 105, 111, 110, 34, 58, 32, 50, 44, 32, 34, 119, 105, 100, 116, 104, 34, 58, 32]⟩ : ByteArray) = ba lit1 := rfl
    have l2 : (⟨#[44, 32, 34, 104, 101, 105, 103, 104, 116, 34, 58, 32]⟩ : ByteArray) = ba lit2 := rfl
    have l3 : (⟨#[125, 10]⟩ : ByteArray) = ba [125, 10] := rfl
    rw [l1, l2, l3]
    change (w_cast_reader_skip (some (σ.length, 0)) (ba lit1) (σ ++ [Rd.row ⟨l, true⟩])).bind _ = _
    have z1 : w_cast_reader_number (some (σ.length, 0)) ((σ ++ [Rd.row ⟨l, true⟩]).set σ.length (rSkip lit1 ⟨l, true⟩).row) = some ((impN1 l).1, (σ ++ [Rd.row ⟨l, true⟩]).set σ.length (impN1 l).2.row) := at_eq hR _ (by omega)
    have z2 : w_cast_reader_number (some (σ.length, 0)) ((σ ++ [Rd.row ⟨l, true⟩]).set σ.length (rSkip lit2 (impN1 l).2).row) = some ((impN2 l).1, (σ ++ [Rd.row ⟨l, true⟩]).set σ.length (impN2 l).2.row) := at_eq hR _ (by omega)
    rw [w_skip_eq hR, Option.bind_some, z1, Option.bind_some, at_skip hR _ (by omega), Option.bind_some, z2, Option.bind_some, at_skip hR _ (by omega), Option.bind_some]
    exact g2
  obtain ⟨v1, σ1, g1, g2⟩ := hcore
  have hc := call_ok ok hK g2
  obtain ⟨hold, g3⟩ := g1
  cases x with
  | none =>
    have e1 : v = (0, 0, ⟨none, 0, 0⟩, 1) := (congrArg (·.1) e).symm
    have e2 : σ' = σ := (congrArg (·.2) e).symm
    subst e1; subst e2
    dsimp only at g3
    subst g3
    exact call_gc0 hc hold (by simp [tQuad, tInt, tSl, AVal.refs, refss])
  | some es =>
    have e1 : v = ((impN1 l).1, (impN2 l).1, (fresh eEv σ es.isEmpty es).1, 0) := (congrArg (·.1) e).symm
    have e2 : σ' = (fresh eEv σ es.isEmpty es).2 := (congrArg (·.2) e).symm
    subst e1; subst e2
    obtain ⟨out, g4, g5, g6, g7⟩ := g3
    subst g4
    cases hb : out.b with
    | none =>
      obtain ⟨rfl, rfl⟩ := own_none g5 hb
      exact call_gc0 hc hold (by simp [tQuad, tInt, tSl, fresh, AVal.refs, refss])
    | some c =>
      cases es with
      | nil => exact absurd rfl (g7 (by rw [hb]; simp))
      | cons a es =>
        cases g5 with
        | nil h1 _ _ _ => rw [h1] at hb; cases hb
        | row d h1 h2 h3 h4 =>
          rw [hb] at h1
          injection h1 with h1
          subst h1
          rw [hb, h2, h3] at hc
          have hlt := g6 c hb
          exact call_gc1 hc hold (Nat.le_of_lt hlt) h4 (El.all_flat eEv (a :: es)) (by simp [tQuad, tInt, tSl, fresh, AVal.ren, rens]) (by simp [tQuad, tInt, tSl, fresh, AVal.refs, refss])
end Go.Abs.TB
namespace Go.Abs.TB
open Go Go.Abs Go.Proofs

/-! ### whole -/
noncomputable def w_law17_whole (s : ByteArray) (σ : Heap) : Option (ByteArray × Heap) := wIf (s.size ≤ 100000000) (ba (wholeL s.data.toList), σ)
theorem w_law17_whole_eq {s : ByteArray} {σ : Heap} (h : s.size ≤ 100000000) : w_law17_whole s σ = some (ba (wholeL s.data.toList), σ) := wIf_eq h
theorem ok_law17_whole : Ok_law17_whole w_law17_whole := fun s σ v σ' h => by
  obtain ⟨hs, e⟩ := wIf_some h
  injection e with e1 e2
  subst e1; subst e2
  have p : callC (R := AVal × Heap) T known0 1 2 25 [.str s] σ (fun v σ => some (v, σ)) = some (.str (ba (wholeL s.data.toList)), σ ++ [.row (eI32.all (runesA s s.size 0)) .rw]) := by
    rw [law17_whole_eq, decide_eq_true (show s.size ≤ 70368744177664 by omega), cond_true]
    simp only [alloc]
    rw [i32_all, read_runes, Option.bind_some, runes_all, Option.bind_some, runesA_of, encodeAll_nat]
    rfl
  exact call_gc0 (call_ok ok known0_ok p) (fun b hb => get_pre (pre_push ..) hb) trivial
/-! ### Plain texts stay -/
theorem enc_asc : ∀ n : Fin 128, encB n.val = [UInt8.ofNat n.val] := by decide +kernel
theorem enc_asc' (n : Nat) (h : n < 128) : encB n = [UInt8.ofNat n] := enc_asc ⟨n, h⟩
theorem whole_asc {l : List UInt8} (h : ∀ b ∈ l, b.toNat < 128) : wholeL l = l := by
  have e : ∀ {l : List UInt8}, (∀ b ∈ l, b.toNat < 128) → (l.map UInt8.toNat).flatMap encB = l := fun {l} => by
    induction l with
    | nil => intro _; rfl
    | cons b l ih =>
      intro h
      rw [List.map_cons, List.flatMap_cons, enc_asc' _ (h b List.mem_cons_self), ih fun c hc => h c (List.mem_cons_of_mem _ hc)]
      simp
  have hv : ∀ n ∈ l.map UInt8.toNat, Utf8.valid (n : Int) = true := fun n hn => by
    obtain ⟨b, hb, rfl⟩ := List.mem_map.1 hn
    have := h b hb
    exact valid_iff.2 (.inl (by omega))
  have hr := runes_enc _ hv
  rw [e h] at hr
  unfold wholeL
  rw [hr, e h]
theorem whole_whole (l : List UInt8) : wholeL (wholeL l) = wholeL l := by
  show (runesOf (wholeL l)).flatMap encB = wholeL l
  rw [runes_wholeL]
  rfl
/-! ### Pieces -/
theorem rSkip_back (q l : List UInt8) (o : Bool) : rSkip q ⟨q ++ l, o⟩ = ⟨l, o⟩ := by
  unfold rSkip
  rw [cutP_back]
theorem rTime_back {n : Nat} (h : n < 4611686018427387904) (l : List UInt8) (o : Bool) : rTime ⟨timeL n ++ l, o⟩ = ((n : Int), ⟨l, o⟩) := by
  unfold rTime
  rw [untL_back h]
theorem rNum_back {n : Nat} (h : n < 9223372036854775808) (l : List UInt8) (o : Bool) (hd : digsN l = 0) : rNum ⟨Lib.decDigits n ++ l, o⟩ = ((n : Int), ⟨l, o⟩) := by
  unfold rNum
  rw [numL_back h l hd]
theorem rText_back (t l : List UInt8) (o : Bool) : rText ⟨quoteL t ++ l, o⟩ = (ba (wholeL t), ⟨l, o⟩) := by
  unfold rText
  rw [unqL_back]
theorem rKind_back {k : Int} (h0 : 0 ≤ k) (h4 : k < 4) (l : List UInt8) (o : Bool) : rKind ⟨sgn k ++ l, o⟩ = (k, ⟨l, o⟩) := by
  have : k = 0 ∨ k = 1 ∨ k = 2 ∨ k = 3 := by omega
  rcases this with rfl | rfl | rfl | rfl
  · exact rKind_some (k := 0) (c := 111) (l := l) rfl (by decide)
  · exact rKind_some (k := 1) (c := 105) (l := l) rfl (by decide)
  · exact rKind_some (k := 2) (c := 114) (l := l) rfl (by decide)
  · exact rKind_some (k := 3) (c := 109) (l := l) rfl (by decide)
/-! ### Events -/
/-- An event that comes back. -/
structure Ev.Good (e : Ev) : Prop where
  t0 : 0 ≤ e.t
  t1 : e.t < 4611686018427387904
  k0 : 0 ≤ e.k
  k1 : e.k < 4
  s : e.s.size ≤ 400
  s1 : wholeL e.s.data.toList = e.s.data.toList
  r : (e.k = 2 → e.s = ⟨#[]⟩ ∧ 1 ≤ e.w ∧ 1 ≤ e.h ∧ e.w ≤ 1000 ∧ e.h ≤ 1000) ∧ (e.k ≠ 2 → e.w = 0 ∧ e.h = 0)
theorem Ev.Good.fit {e : Ev} (h : e.Good) : e.Fit := by
  refine ⟨h.t0, by have := h.t1; omega, h.k0, h.k1, by have := h.s; omega, ?_, ?_⟩
  all_goals
    by_cases hk : e.k = 2
    · obtain ⟨_, h1, h2, h3, h4⟩ := h.r.1 hk
      constructor <;> omega
    · obtain ⟨h1, h2⟩ := h.r.2 hk
      constructor <;> omega
theorem dec_asc (u : Nat) : ∀ b ∈ Lib.decDigits u, b.toNat < 128 := fun b hb => by
  have := isD_iff.1 ((dec_digits u).1 b hb)
  omega
theorem rEvent_back {e : Ev} (g : e.Good) (more : List UInt8) : rEvent ⟨lineL e ++ more, true⟩ = (e, ⟨more, true⟩) := by
  obtain ⟨n, hn⟩ : ∃ n : Nat, e.t = (n : Int) := ⟨e.t.toNat, by have := g.t0; omega⟩
  have hl : lineL e ++ more = [91] ++ (timeL n ++ ([44, 32, 34] ++ (sgn e.k ++ ([34, 44, 32] ++ (quoteL e.text.data.toList ++ ([93, 10] ++ more)))))) := by
    unfold lineL
    rw [hn, Int.toNat_natCast, quoteB_L]
    simp only [List.append_assoc, List.cons_append, List.nil_append]
  unfold rEvent
  rw [hl, rSkip_back, rTime_back (by have := g.t1; omega)]
  dsimp only
  rw [rSkip_back, rKind_back g.k0 g.k1]
  dsimp only
  rw [rSkip_back, rText_back]
  dsimp only
  rw [rSkip_back]
  by_cases hk : e.k = 2
  · obtain ⟨h1, h2, h3, h4, h5⟩ := g.r.1 hk
    obtain ⟨w, hw⟩ : ∃ n : Nat, e.w = (n : Int) := ⟨e.w.toNat, by omega⟩
    obtain ⟨h, hh⟩ : ∃ n : Nat, e.h = (n : Int) := ⟨e.h.toNat, by omega⟩
    have ht : e.text.data.toList = Lib.decDigits w ++ ([120] ++ (Lib.decDigits h ++ [])) := by
      unfold Ev.text
      rw [hk, beq_self_eq_true, cond_true, ba_data, hw, hh, itoa_nat, itoa_nat, List.append_nil]
      rfl
    have hwl : wholeL e.text.data.toList = e.text.data.toList := whole_asc fun b hb => by
      rw [ht] at hb
      rw [List.mem_append, List.mem_append, List.append_nil] at hb
      rcases hb with hb | hb | hb
      · exact dec_asc _ b hb
      · rw [List.mem_singleton] at hb; subst hb; decide
      · exact dec_asc _ b hb
    rw [show (e.k == 2) = true by rw [hk]; rfl, cond_true, ba_data, hwl, ht, rNum_back (by omega) _ _ rfl]
    dsimp only
    rw [rSkip_back, rNum_back (by omega) _ _ rfl]
    cases e
    simp only at hn hw hh h1
    subst hn; subst hw; subst hh; subst h1
    rfl
  · obtain ⟨h1, h2⟩ := g.r.2 hk
    have ht : e.text = e.s := by
      unfold Ev.text
      rw [show (e.k == 2) = false from beq_eq_false_iff_ne.2 hk, cond_false]
    rw [show (e.k == 2) = false from beq_eq_false_iff_ne.2 hk, cond_false, ht, g.s1, ← ba_self]
    cases e
    simp only at hn h1 h2
    subst hn; subst h1; subst h2
    rfl
/-- Good events, in the order of time. -/
def OkL : Int → List Ev → Prop
  | _, [] => True
  | last, e :: es => last ≤ e.t ∧ e.Good ∧ OkL e.t es
theorem OkL.good : ∀ {es : List Ev} {last : Int}, OkL last es → ∀ e ∈ es, e.Good
  | [], _, _, _, he => by cases he
  | x :: es, _, h, e, he => by
    rcases List.mem_cons.1 he with rfl | he
    · exact h.2.1
    · exact OkL.good h.2.2 e he
theorem right_good {e : Ev} (g : e.Good) : rightA (evA e) = true := by
  unfold rightA evA
  dsimp only
  have h0 := g.t0
  have h1 := g.t1
  have h2 := g.s
  rw [decide_eq_false (show ¬ e.t < 0 by omega), cond_false, decide_eq_false (show ¬ e.t ≥ 4611686018427387904 by omega), cond_false, decide_eq_false (show ¬ (e.s.size : Int) > 400 by omega), cond_false]
  have : e.k = 0 ∨ e.k = 1 ∨ e.k = 2 ∨ e.k = 3 := by have := g.k0; have := g.k1; omega
  by_cases hk : e.k = 2
  · obtain ⟨a1, a2, a3, a4, a5⟩ := g.r.1 hk
    rw [hk, a1, decide_eq_true (show e.w ≥ 1 by omega), decide_eq_true (show e.h ≥ 1 by omega), decide_eq_true (show e.w ≤ 1000 by omega), decide_eq_true (show e.h ≤ 1000 by omega), beq_self_eq_true, beq_self_eq_true]
    rfl
  · obtain ⟨a1, a2⟩ := g.r.2 hk
    rw [a1, a2]
    rcases this with h | h | h | h
    · rw [h]; rfl
    · rw [h]; rfl
    · exact absurd h hk
    · rw [h]; rfl
theorem list_good : ∀ {es : List Ev} {last : Int}, OkL last es → listB last es = true
  | [], _, _ => rfl
  | e :: es, last, h => by
    rw [listB, right_good h.2.1, Bool.not_true, cond_false, decide_eq_false (show ¬ e.t < last by have := h.1; omega), cond_false]
    exact list_good h.2.2
theorem imp_lines : ∀ (es acc : List Ev) (m : Nat), (∀ e ∈ es, e.Good) → es.length < m → impGo m ⟨es.flatMap lineL, true⟩ acc = some (bif listB 0 (acc ++ es) then some (acc ++ es) else none)
  | _, _, 0, _, h => by omega
  | [], acc, m + 1, _, _ => by
    rw [impGo, List.flatMap_nil, List.append_nil]
    rfl
  | e :: es, acc, m + 1, hg, hm => by
    have hne : (([] : List UInt8) ≠ lineL e ++ es.flatMap lineL) := by unfold lineL; simp
    rw [impGo, List.flatMap_cons, show ((lineL e ++ es.flatMap lineL) == []) = false from bne_list (Ne.symm hne), Bool.true_and, Bool.not_false, cond_true, rEvent_back (hg e List.mem_cons_self)]
    dsimp only
    rw [imp_lines es _ m (fun x hx => hg x (List.mem_cons_of_mem _ hx)) (by rw [List.length_cons] at hm; omega), List.append_assoc]
    rfl
theorem imp_back {w h : Nat} (hw : w < 9223372036854775808) (hh : h < 9223372036854775808) {es : List Ev} (hg : OkL 0 es) (hn : es.length ≤ 1000000) :
    (impN1 (exportL w h es)).1 = w ∧ (impN2 (exportL w h es)).1 = h ∧ impF (exportL w h es) = some (some es) := by
  have hl : exportL (w : Int) (h : Int) es = lit1 ++ (Lib.decDigits w ++ (lit2 ++ (Lib.decDigits h ++ ([125, 10] ++ es.flatMap lineL)))) := by
    unfold exportL headL lit1 lit2
    rw [itoa_nat, itoa_nat]
    simp only [List.append_assoc]
  have h1 : impN1 (exportL (w : Int) (h : Int) es) = ((w : Int), ⟨lit2 ++ (Lib.decDigits h ++ ([125, 10] ++ es.flatMap lineL)), true⟩) := by
    unfold impN1
    rw [hl, rSkip_back, rNum_back hw _ _ rfl]
  have h2 : impN2 (exportL (w : Int) (h : Int) es) = ((h : Int), ⟨[125, 10] ++ es.flatMap lineL, true⟩) := by
    unfold impN2
    rw [h1]
    dsimp only
    rw [rSkip_back, rNum_back hh _ _ rfl]
  refine ⟨by rw [h1], by rw [h2], ?_⟩
  unfold impF
  rw [h2]
  dsimp only
  rw [rSkip_back, imp_lines es [] _ hg.good (by omega), List.nil_append, list_good hg]
  rfl
/-! ### Same -/
theorem Same_loop {L : Nat} {a b : Sl} {σ : Heap} {es : List Ev} (ha : a.Is eEv σ es) (hb : b.Is eEv σ es) (hn : es.length ≤ 2000000) :
    ∀ (m i : Nat), es.length - i < m → i ≤ es.length → ref12_Same_L4 L m a b (i : Int) σ (fun v σ => some (v, σ)) = some (.bool true, σ)
  | 0, _, h, _ => by omega
  | m + 1, i, hm, hi => by
    rw [ref12_Same_L4_eq, ha.n, hb.n]
    by_cases h : i < es.length
    · have hge : es[i]? = some es[i] := List.getElem?_eq_getElem h
      generalize es[i] = e at hge
      obtain ⟨lb, hbb, hc⟩ := ha.cell hge
      have c0 := hc 0 (by decide); have c1 := hc 1 (by decide); have c2 := hc 2 (by decide); have c3 := hc 3 (by decide); have c4 := hc 4 (by decide)
      change Heap.cell? σ lb (a.o + i * 5 + 0) = some (AVal.int .i64 e.t) at c0
      change Heap.cell? σ lb (a.o + i * 5 + 1) = some (AVal.int .i64 e.k) at c1
      change Heap.cell? σ lb (a.o + i * 5 + 2) = some (AVal.str e.s) at c2
      change Heap.cell? σ lb (a.o + i * 5 + 3) = some (AVal.int .i64 e.w) at c3
      change Heap.cell? σ lb (a.o + i * 5 + 4) = some (AVal.int .i64 e.h) at c4
      rw [Nat.add_zero] at c0
      obtain ⟨lb', hbb', hc'⟩ := hb.cell hge
      have d0 := hc' 0 (by decide); have d1 := hc' 1 (by decide); have d2 := hc' 2 (by decide); have d3 := hc' 3 (by decide); have d4 := hc' 4 (by decide)
      change Heap.cell? σ lb' (b.o + i * 5 + 0) = some (AVal.int .i64 e.t) at d0
      change Heap.cell? σ lb' (b.o + i * 5 + 1) = some (AVal.int .i64 e.k) at d1
      change Heap.cell? σ lb' (b.o + i * 5 + 2) = some (AVal.str e.s) at d2
      change Heap.cell? σ lb' (b.o + i * 5 + 3) = some (AVal.int .i64 e.w) at d3
      change Heap.cell? σ lb' (b.o + i * 5 + 4) = some (AVal.int .i64 e.h) at d4
      rw [Nat.add_zero] at d0
      have hnext : IntKind.i64.wrap ((i : Int) + 1) = ((i + 1 : Nat) : Int) := wrap_i64_succ i (by omega)
      rw [lt_true h, cond_true, dec0, Bool.true_and, cond_true, hbb, Option.bind_some, Int.toNat_natCast, c0, c1, c2, c3, c4, hbb']
      simp only [int?, str?, Option.bind_some, if_true, hnext, cond_true, d0, d1, d2, d3, d4, beq_self_eq_true, Bool.and_true, Bool.not_true, cond_false]
      exact Same_loop ha hb hn m (i + 1) (by omega) (by omega)
    · rw [lt_false h, cond_false]
noncomputable def w_ref12_Same (a b : Sl) (σ : Heap) : Option (Bool × Heap) := wOf (fun es : List Ev => a.Is eEv σ es ∧ b.Is eEv σ es ∧ es.length ≤ 2000000) fun _ => (true, σ)
theorem w_ref12_Same_eq {a b : Sl} {σ : Heap} {es : List Ev} (ha : a.Is eEv σ es) (hb : b.Is eEv σ es) (hn : es.length ≤ 2000000) : w_ref12_Same a b σ = some (true, σ) :=
  wOf_eq (P := fun es : List Ev => a.Is eEv σ es ∧ b.Is eEv σ es ∧ es.length ≤ 2000000) (f := fun _ => (true, σ)) (x := es) ⟨ha, hb, hn⟩ fun _ _ => rfl
theorem ok_ref12_Same : Ok_ref12_Same w_ref12_Same := fun a b σ v σ' hx => by
  obtain ⟨es, ⟨ha, hb, hn⟩, e⟩ := wOf_some hx
  injection e with e1 e2
  subst e1; subst e2
  refine call_ok ok known0_ok (L := 2000001) (n := 2) ((ref12_Same_eq 2000001 a b σ _).trans ?_)
  rw [ha.n, hb.n, bne_self_eq_false, cond_false]
  exact Same_loop ha hb hn 2000001 0 (by omega) (by omega)
end Go.Abs.TB
namespace Go.Abs.TB
open Go Go.Abs Go.Proofs

theorem rSkip_sound {q : List UInt8} {r : Rd} (h : (rSkip q r).ok = true) : r.ok = true ∧ q ++ (rSkip q r).l = r.l := by
  unfold rSkip at h ⊢
  cases hc : cutP q r.l with
  | some l =>
    rw [hc] at h
    exact ⟨h, cutP_sound hc⟩
  | none =>
    rw [hc] at h
    cases h
theorem rNum_sound {r : Rd} (h : (rNum r).2.ok = true) : r.ok = true ∧ ∃ n : Nat, (rNum r).1 = (n : Int) ∧ n < 9223372036854775808 ∧ Lib.decDigits n ++ (rNum r).2.l = r.l := by
  unfold rNum at h ⊢
  cases hc : numL r.l with
  | some x =>
    rw [hc] at h
    obtain ⟨h1, h2, _⟩ := numL_sound (n := x.1) (r := x.2) hc
    exact ⟨h, x.1, rfl, h2, h1.symm⟩
  | none =>
    rw [hc] at h
    cases h
theorem rTime_sound {r : Rd} (h : (rTime r).2.ok = true) : r.ok = true ∧ ∃ n : Nat, (rTime r).1 = (n : Int) ∧ timeL n ++ (rTime r).2.l = r.l := by
  unfold rTime at h ⊢
  cases hc : untL r.l with
  | some x =>
    rw [hc] at h
    obtain ⟨h1, h2⟩ := untL_sound (n := x.1) (r := x.2) hc
    exact ⟨h, x.1, rfl, h1⟩
  | none =>
    rw [hc] at h
    cases h
theorem kindOf_sound {c : UInt8} {k : Nat} (h : kindOf c = some k) : k < 4 ∧ sgn (k : Int) = [c] := by
  unfold kindOf at h
  split at h
  · rename_i e; injection h with h; subst h; subst e; exact ⟨by decide, rfl⟩
  split at h
  · rename_i e; injection h with h; subst h; subst e; exact ⟨by decide, rfl⟩
  split at h
  · rename_i e; injection h with h; subst h; subst e; exact ⟨by decide, rfl⟩
  split at h
  · rename_i e; injection h with h; subst h; subst e; exact ⟨by decide, rfl⟩
  · cases h
theorem rKind_sound {r : Rd} (h : (rKind r).2.ok = true) : r.ok = true ∧ 0 ≤ (rKind r).1 ∧ (rKind r).1 < 4 ∧ sgn (rKind r).1 ++ (rKind r).2.l = r.l := by
  cases hl : r.l with
  | nil =>
    unfold rKind at h
    rw [hl] at h
    cases h
  | cons c l => cases hk : kindOf c with
    | some k =>
      rw [rKind_some hl hk] at h ⊢
      obtain ⟨h1, h2⟩ := kindOf_sound hk
      exact ⟨h, by show (0 : Int) ≤ k; omega, by show (k : Int) < 4; omega, by rw [h2]; rfl⟩
    | none =>
      rw [rKind_none hl hk] at h
      cases h
theorem rText_sound {r : Rd} (h : (rText r).2.ok = true) : r.ok = true ∧ wholeL (rText r).1.data.toList = (rText r).1.data.toList ∧ quoteB (rText r).1 ++ (rText r).2.l = r.l := by
  unfold rText at h ⊢
  cases hc : unqL r.l with
  | some x =>
    rw [hc] at h
    obtain ⟨h1, h2⟩ := unqL_sound (t := x.1) (r := x.2) hc
    refine ⟨h, ?_, ?_⟩
    · show wholeL (ba x.1).data.toList = (ba x.1).data.toList
      rw [ba_data]
      exact enc_runes x.1.length x.1 (Nat.le_refl _) h1
    · show quoteB (ba x.1) ++ x.2 = _
      rw [quoteB_L, ba_data]
      exact h2
  | none =>
    rw [hc] at h
    cases h
theorem rEvent_sound {r : Rd} (h : (rEvent r).2.ok = true) : r.ok = true ∧ lineL (rEvent r).1 ++ (rEvent r).2.l = r.l ∧ wholeL (rEvent r).1.s.data.toList = (rEvent r).1.s.data.toList := by
  unfold rEvent at h ⊢
  dsimp only at h ⊢
  have s1 := @rSkip_sound [91] r
  have s2 := @rTime_sound (rSkip [91] r)
  generalize rSkip [91] r = r1 at *
  generalize rTime r1 = A at *
  have s3 := @rSkip_sound [44, 32, 34] A.2
  generalize rSkip [44, 32, 34] A.2 = r3 at *
  have s4 := @rKind_sound r3
  generalize rKind r3 = B at *
  have s5 := @rSkip_sound [34, 44, 32] B.2
  generalize rSkip [34, 44, 32] B.2 = r5 at *
  have s6 := @rText_sound r5
  generalize rText r5 = C at *
  have s7 := @rSkip_sound [93, 10] C.2
  generalize rSkip [93, 10] C.2 = S at *
  have key : S.ok = true → r.ok = true ∧ (∃ n : Nat, A.1 = (n : Int) ∧ 91 :: (timeL n ++ ([44, 32, 34] ++ (sgn B.1 ++ ([34, 44, 32] ++ (quoteB C.1 ++ ([93, 10] ++ S.l)))))) = r.l) ∧ wholeL C.1.data.toList = C.1.data.toList := fun h7 => by
    obtain ⟨a7, b7⟩ := s7 h7
    obtain ⟨a6, c6, b6⟩ := s6 a7
    obtain ⟨a5, b5⟩ := s5 a6
    obtain ⟨a4, _, _, b4⟩ := s4 a5
    obtain ⟨a3, b3⟩ := s3 a4
    obtain ⟨a2, n, e2, b2⟩ := s2 a3
    obtain ⟨a1, b1⟩ := s1 a2
    refine ⟨a1, ⟨n, e2, ?_⟩, c6⟩
    rw [b7, b6, b5, b4, b3, b2, ← b1]
    rfl
  cases hk : B.1 == 2 with
  | true =>
    rw [hk, cond_true] at h
    rw [cond_true]
    dsimp only at h ⊢
    rw [Bool.and_eq_true] at h
    obtain ⟨h1, h2⟩ := h
    obtain ⟨u3, n3, e3, f3⟩ := rNum_sound h1
    obtain ⟨u2, f2⟩ := rSkip_sound u3
    obtain ⟨u1, n1, e1, _, f1⟩ := rNum_sound u2
    obtain ⟨k1, ⟨n, k2, k3⟩, k4⟩ := key u1
    refine ⟨k1, ?_, rfl⟩
    rw [beq_iff_eq] at h2
    rw [h2, List.append_nil] at f3
    have hx : C.1 = ba (Lib.itoa (rNum ⟨C.1.data.toList, S.ok⟩).1 ++ 120 :: Lib.itoa (rNum (rSkip [120] (rNum ⟨C.1.data.toList, S.ok⟩).2)).1) := by
      rw [e1, e3, itoa_nat, itoa_nat]
      conv => lhs; rw [ba_self C.1]
      congr 1
      change _ = C.1.data.toList at f1
      rw [← f1, ← f2, ← f3.2]
      rfl
    unfold lineL Ev.text
    dsimp only
    rw [hk, cond_true, ← hx, k2, Int.toNat_natCast, ← k3]
    simp only [List.append_assoc, List.cons_append, List.nil_append]
  | false =>
    rw [hk, cond_false] at h
    rw [cond_false]
    obtain ⟨k1, ⟨n, k2, k3⟩, k4⟩ := key h
    refine ⟨k1, ?_, k4⟩
    unfold lineL Ev.text
    dsimp only
    rw [hk, cond_false, k2, Int.toNat_natCast, ← k3]
    simp only [List.append_assoc, List.cons_append, List.nil_append]
theorem rEvent_less {r : Rd} (h : (rEvent r).2.ok = true) : (rEvent r).2.l.length < r.l.length := by
  obtain ⟨_, h2, _⟩ := rEvent_sound h
  have := congrArg List.length h2
  rw [List.length_append] at this
  unfold lineL at this
  rw [List.length_cons] at this
  omega
theorem impGo_ends : ∀ (m : Nat) (r : Rd) (acc : List Ev), (r.ok = true → r.l.length < m) → 0 < m → ∃ x, impGo m r acc = some x
  | 0, _, _, _, h => by omega
  | m + 1, r, acc, h, _ => by
    rw [impGo]
    cases hc : r.ok && !(r.l == []) with
    | false => exact ⟨_, rfl⟩
    | true =>
      rw [Bool.and_eq_true] at hc
      have hl := h hc.1
      have hne : r.l ≠ [] := by simpa using hc.2
      have hpos := List.length_pos_iff.2 hne
      exact impGo_ends m _ _ (fun ho => by have := rEvent_less ho; omega) (by omega)
theorem impGo_sound : ∀ (m : Nat) (r : Rd) (acc : List Ev) {es : List Ev}, impGo m r acc = some (some es) → r.ok = true ∧ listB 0 es = true ∧ ∃ fs, es = acc ++ fs ∧ fs.flatMap lineL = r.l ∧ ∀ e ∈ fs, wholeL e.s.data.toList = e.s.data.toList
  | 0, _, _, _, h => by cases h
  | m + 1, r, acc, es, h => by
    rw [impGo] at h
    cases hc : r.ok && !(r.l == []) with
    | false =>
      rw [hc, cond_false] at h
      injection h with h
      cases hb : r.ok && listB 0 acc with
      | false => rw [hb] at h; cases h
      | true =>
        rw [hb, cond_true] at h
        injection h with h
        subst h
        rw [Bool.and_eq_true] at hb
        rw [hb.1, Bool.true_and, Bool.not_eq_false'] at hc
        exact ⟨hb.1, hb.2, [], by rw [List.append_nil], (by simpa using hc : r.l = []).symm, fun e he => by cases he⟩
    | true =>
      rw [hc, cond_true] at h
      obtain ⟨h1, h2, fs, h3, h4, h5⟩ := impGo_sound m _ _ h
      obtain ⟨g1, g2, g3⟩ := rEvent_sound h1
      refine ⟨g1, h2, (rEvent r).1 :: fs, by rw [h3, List.append_assoc]; rfl, by rw [List.flatMap_cons, h4, g2], fun e he => ?_⟩
      rcases List.mem_cons.1 he with rfl | he
      · exact g3
      · exact h5 e he
theorem imp_ends {l : List UInt8} (h : l.length ≤ 1000000) : ∃ x, impF l = some x := by
  unfold impF
  refine impGo_ends _ _ _ (fun _ => ?_) (by decide)
  have h1 := rSkip_len lit1 ⟨l, true⟩
  have h2 := rNum_len (rSkip lit1 ⟨l, true⟩)
  have h3 := rSkip_len lit2 (impN1 l).2
  have h4 := rNum_len (rSkip lit2 (impN1 l).2)
  have h5 := rSkip_len [125, 10] (impN2 l).2
  dsimp only at h1
  change (impN1 l).2.l.length ≤ _ at h2
  change (impN2 l).2.l.length ≤ _ at h4
  omega
theorem imp_sound {l : List UInt8} {es : List Ev} (h : impF l = some (some es)) : ∃ w v : Nat, (impN1 l).1 = (w : Int) ∧ (impN2 l).1 = (v : Int) ∧ w < 9223372036854775808 ∧ v < 9223372036854775808 ∧ exportL w v es = l ∧ listB 0 es = true ∧ ∀ e ∈ es, wholeL e.s.data.toList = e.s.data.toList := by
  unfold impF at h
  obtain ⟨h1, h2, fs, h3, h4, h5⟩ := impGo_sound _ _ _ h
  rw [List.nil_append] at h3
  subst h3
  obtain ⟨a1, b1⟩ := rSkip_sound h1
  obtain ⟨a2, v, e2, g2, b2⟩ := rNum_sound a1
  obtain ⟨a3, b3⟩ := rSkip_sound a2
  obtain ⟨a4, w, e4, g4, b4⟩ := rNum_sound a3
  obtain ⟨_, b5⟩ := rSkip_sound a4
  refine ⟨w, v, e4, e2, g4, g2, ?_, h2, h5⟩
  have e : exportL (w : Int) (v : Int) es = lit1 ++ (Lib.decDigits w ++ (lit2 ++ (Lib.decDigits v ++ ([125, 10] ++ es.flatMap lineL)))) := by
    unfold exportL headL lit1 lit2
    rw [itoa_nat, itoa_nat]
    simp only [List.append_assoc]
  rw [e, h4, b1]
  change lit1 ++ (Lib.decDigits w ++ (lit2 ++ (Lib.decDigits v ++ (rNum (rSkip lit2 (impN1 l).2)).2.l))) = l
  rw [b2, b3]
  change lit1 ++ (Lib.decDigits w ++ (rNum (rSkip lit1 ⟨l, true⟩)).2.l) = l
  rw [b4]
  exact b5
/-! ### What Right tells -/
theorem right_fit {e : Ev} (h : rightA (evA e) = true) : 0 ≤ e.t ∧ e.t < 4611686018427387904 ∧ e.s.size ≤ 400 ∧ 0 ≤ e.k ∧ e.k < 4 ∧ (e.k = 2 → e.s.size = 0 ∧ 1 ≤ e.w ∧ e.w ≤ 1000 ∧ 1 ≤ e.h ∧ e.h ≤ 1000) ∧ (e.k ≠ 2 → e.w = 0 ∧ e.h = 0) := by
  unfold rightA evA at h
  dsimp only at h
  by_cases c1 : e.t < 0
  · rw [decide_eq_true c1] at h; cases h
  rw [decide_eq_false c1, cond_false] at h
  by_cases c2 : e.t ≥ 4611686018427387904
  · rw [decide_eq_true c2] at h; cases h
  rw [decide_eq_false c2, cond_false] at h
  by_cases c3 : (e.s.size : Int) > 400
  · rw [decide_eq_true c3] at h; cases h
  rw [decide_eq_false c3, cond_false] at h
  have hz : ∀ {o : Bool}, (bif e.w == 0 then e.h == 0 else false) = true → e.w = 0 ∧ e.h = 0 := fun {_} hh => by
    cases hw : e.w == 0 with
    | true => rw [hw, cond_true] at hh; exact ⟨beq_iff_eq.1 hw, beq_iff_eq.1 hh⟩
    | false => rw [hw, cond_false] at hh; cases hh
  by_cases k2 : e.k = 2
  · rw [show (e.k == 2) = true by rw [k2]; rfl, cond_true] at h
    cases d : (e.s.toList == (⟨#[]⟩ : ByteArray).toList) with
    | false => rw [d] at h; cases h
    | true =>
      rw [d, cond_true] at h
      have hs : e.s.size = 0 := by
        rw [beq_iff_eq, ba_nil, ba_toList, ByteArray.toList_eq] at d
        have := congrArg List.length d
        rwa [Array.length_toList] at this
      by_cases w1 : e.w ≥ 1
      · rw [decide_eq_true w1, cond_true] at h
        by_cases w2 : e.h ≥ 1
        · rw [decide_eq_true w2, cond_true] at h
          by_cases w3 : e.w ≤ 1000
          · rw [decide_eq_true w3, cond_true] at h
            have w4 := of_decide_eq_true h
            exact ⟨by omega, by omega, by omega, by omega, by omega, fun _ => ⟨hs, by omega, w3, by omega, w4⟩, fun hn => absurd k2 hn⟩
          · rw [decide_eq_false w3] at h; cases h
        · rw [decide_eq_false w2] at h; cases h
      · rw [decide_eq_false w1] at h; cases h
  · rw [show (e.k == 2) = false from beq_eq_false_iff_ne.2 k2, cond_false] at h
    by_cases k0 : e.k = 0
    · rw [show (e.k == 0) = true by rw [k0]; rfl, cond_true] at h
      exact ⟨by omega, by omega, by omega, by omega, by omega, fun hn => absurd hn k2, fun _ => hz (o := true) h⟩
    · rw [show (e.k == 0) = false from beq_eq_false_iff_ne.2 k0, cond_false] at h
      by_cases k1 : e.k = 1
      · rw [show (e.k == 1) = true by rw [k1]; rfl, cond_true] at h
        exact ⟨by omega, by omega, by omega, by omega, by omega, fun hn => absurd hn k2, fun _ => hz (o := true) h⟩
      · rw [show (e.k == 1) = false from beq_eq_false_iff_ne.2 k1, cond_false] at h
        by_cases k3 : e.k = 3
        · rw [show (e.k == 3) = true by rw [k3]; rfl, cond_true] at h
          exact ⟨by omega, by omega, by omega, by omega, by omega, fun hn => absurd hn k2, fun _ => hz (o := true) h⟩
        · rw [show (e.k == 3) = false from beq_eq_false_iff_ne.2 k3] at h; cases h
theorem right_Fit {e : Ev} (h : rightA (evA e) = true) : e.Fit := by
  obtain ⟨h1, h2, h3, h4, h5, h6, h7⟩ := right_fit h
  refine ⟨h1, by omega, h4, h5, by omega, ?_, ?_⟩
  all_goals
    by_cases hk : e.k = 2
    · have := h6 hk
      constructor <;> omega
    · have := h7 hk
      constructor <;> omega
def RightL : Int → List Ev → Prop
  | _, [] => True
  | last, e :: es => last ≤ e.t ∧ rightA (evA e) = true ∧ RightL e.t es
theorem listB_right : ∀ {es : List Ev} {last : Int}, listB last es = true → RightL last es
  | [], _, _ => trivial
  | e :: es, last, h => by
    rw [listB] at h
    cases hr : rightA (evA e) with
    | false => rw [hr] at h; cases h
    | true =>
      rw [hr, Bool.not_true, cond_false] at h
      by_cases ht : e.t < last
      · rw [decide_eq_true ht] at h; cases h
      · rw [decide_eq_false ht, cond_false] at h
        exact ⟨by omega, hr, listB_right h⟩
theorem RightL.all : ∀ {es : List Ev} {last : Int}, RightL last es → ∀ e ∈ es, rightA (evA e) = true
  | [], _, _, _, he => by cases he
  | x :: es, _, h, e, he => by
    rcases List.mem_cons.1 he with rfl | he
    · exact h.2.1
    · exact RightL.all h.2.2 e he
theorem RightL.step : ∀ {es : List Ev} {last : Int} {i : Nat} {a b : Ev}, RightL last es → es[i]? = some a → es[i + 1]? = some b → a.t ≤ b.t
  | [], _, _, _, _, _, h, _ => by simp at h
  | [x], _, 0, _, _, _, _, h => by simp at h
  | x :: y :: es, _, 0, a, b, h, ha, hb => by
    simp at ha hb
    subst ha; subst hb
    exact h.2.2.1
  | x :: es, _, i + 1, a, b, h, ha, hb => RightL.step (es := es) (i := i) h.2.2 (by simpa using ha) (by simpa using hb)
end Go.Abs.TB
namespace Go.Abs.TB
open Go Go.Abs Go.Proofs

def right12 (e : api_Event) : Bool :=
  bif decide (e.Time < 0) then false else bif decide (e.Time > 4611686018427387903) then false else bif decide ((e.Data.size : Int) > 400) then false else bif decide (e.Kind < 0) then false else bif decide (e.Kind > 3) then false else
  bif e.Kind == 2 then (bif (e.Data.size : Int) == 0 then (bif decide (e.W > 0) then (bif decide (e.W < 1001) then (bif decide (e.H > 0) then decide (e.H < 1001) else false) else false) else false) else false)
  else bif e.W == 0 then e.H == 0 else false
noncomputable def w_ref12_Right (a : api_Event) (σ : Heap) : Option (Bool × Heap) := some (right12 a, σ)
theorem ok_ref12_Right : Ok_ref12_Right w_ref12_Right := fun a σ v σ' h => by
  injection h with h
  injection h with e1 e2
  subst e1; subst e2
  refine call_ok ok known0_ok (L := 1) (n := 2) ((ref12_Right_eq 1 a σ _).trans ?_)
  simp only [cond_K]
  rfl
theorem right12_of {e : Ev} (h : rightA (evA e) = true) : right12 (evA e) = true := by
  obtain ⟨h1, h2, h3, h4, h5, h6, h7⟩ := right_fit h
  unfold right12 evA
  dsimp only
  rw [decide_eq_false (show ¬ e.t < 0 by omega), cond_false, decide_eq_false (show ¬ e.t > 4611686018427387903 by omega), cond_false, decide_eq_false (show ¬ (e.s.size : Int) > 400 by omega), cond_false, decide_eq_false (show ¬ e.k < 0 by omega), cond_false, decide_eq_false (show ¬ e.k > 3 by omega), cond_false]
  by_cases hk : e.k = 2
  · obtain ⟨a1, a2, a3, a4, a5⟩ := h6 hk
    rw [hk, a1, decide_eq_true (show e.w > 0 by omega), decide_eq_true (show e.w < 1001 by omega), decide_eq_true (show e.h > 0 by omega), decide_eq_true (show e.h < 1001 by omega)]
    rfl
  · obtain ⟨a1, a2⟩ := h7 hk
    rw [show (e.k == 2) = false from beq_eq_false_iff_ne.2 hk, cond_false, a1, a2]
    rfl
noncomputable def c_rlist : C_ref12_List := { ref12_Right := w_ref12_Right }
theorem RList_loop {L : Nat} {l : Sl} {σ : Heap} {es : List Ev} (hl : l.Is eEv σ es) (hn : es.length ≤ 2000000) (hR : RightL 0 es) :
    ∀ (m i : Nat), es.length - i < m → i ≤ es.length → ref12_List_L2 c_rlist L m l (i : Int) σ (fun v σ => some (v, σ)) = some (.bool true, σ)
  | 0, _, h, _ => by omega
  | m + 1, i, hm, hi => by
    have q1 : c_rlist.ref12_Right = w_ref12_Right := rfl
    rw [ref12_List_L2_eq, q1, hl.n]
    by_cases h : i < es.length
    · have hge : es[i]? = some es[i] := List.getElem?_eq_getElem h
      have hr := right12_of (hR.all es[i] (List.getElem_mem h))
      generalize es[i] = e at hge hr
      obtain ⟨lb, hb, hc⟩ := hl.cell hge
      have c0 := hc 0 (by decide); have c1 := hc 1 (by decide); have c2 := hc 2 (by decide); have c3 := hc 3 (by decide); have c4 := hc 4 (by decide)
      change Heap.cell? σ lb (l.o + i * 5 + 0) = some (AVal.int .i64 e.t) at c0
      change Heap.cell? σ lb (l.o + i * 5 + 1) = some (AVal.int .i64 e.k) at c1
      change Heap.cell? σ lb (l.o + i * 5 + 2) = some (AVal.str e.s) at c2
      change Heap.cell? σ lb (l.o + i * 5 + 3) = some (AVal.int .i64 e.w) at c3
      change Heap.cell? σ lb (l.o + i * 5 + 4) = some (AVal.int .i64 e.h) at c4
      rw [Nat.add_zero] at c0
      have hnext : IntKind.i64.wrap ((i : Int) + 1) = ((i + 1 : Nat) : Int) := wrap_i64_succ i (by omega)
      have ih := RList_loop (L := L) hl hn hR m (i + 1) (by omega) (by omega)
      rw [lt_true h, cond_true, dec0, Bool.true_and, cond_true, hb, Option.bind_some, Int.toNat_natCast, c0, c1, c2, c3, c4]
      simp only [int?, str?, Option.bind_some, if_true, hnext]
      unfold w_ref12_Right
      rw [Option.bind_some]
      dsimp only
      change (bif !right12 (evA e) then _ else _) = _
      rw [hr, Bool.not_true, cond_false]
      by_cases h0 : i = 0
      · subst h0
        rw [show decide (((0 : Nat) : Int) > 0) = false from rfl, cond_false]
        exact ih
      · obtain ⟨j, rfl⟩ : ∃ j, i = j + 1 := ⟨i - 1, by omega⟩
        have hpj : es[j]? = some es[j] := List.getElem?_eq_getElem (by omega)
        have hup := hR.step hpj hge
        generalize es[j] = f at hpj hup
        obtain ⟨lb', hb', hc'⟩ := hl.cell hpj
        rw [hb] at hb'
        injection hb' with hb'
        subst hb'
        have d0 := hc' 0 (by decide)
        change Heap.cell? σ lb (l.o + j * 5 + 0) = some (AVal.int .i64 f.t) at d0
        rw [Nat.add_zero] at d0
        have hprev : IntKind.i64.wrap (((j + 1 : Nat) : Int) - 1) = (j : Int) := by rw [wrap_i64_of (by omega) (by omega)]; omega
        rw [decide_eq_true (show ((j + 1 : Nat) : Int) > 0 by omega), cond_true, cond_true, c0, hprev]
        simp only [Option.bind_some, if_true, dec0, Bool.true_and]
        rw [lt_true (show j < es.length by omega), cond_true, Int.toNat_natCast, d0]
        simp only [Option.bind_some, if_true]
        rw [decide_eq_false (show ¬ e.t < f.t by omega), cond_false]
        exact ih
    · rw [lt_false h, cond_false]
noncomputable def w_ref12_List (l : Sl) (σ : Heap) : Option (Bool × Heap) := wOf (fun es : List Ev => l.Is eEv σ es ∧ es.length ≤ 2000000 ∧ RightL 0 es) fun _ => (true, σ)
theorem w_ref12_List_eq {l : Sl} {σ : Heap} {es : List Ev} (h : l.Is eEv σ es) (hn : es.length ≤ 2000000) (hR : RightL 0 es) : w_ref12_List l σ = some (true, σ) := wOf_eq (P := fun es : List Ev => l.Is eEv σ es ∧ es.length ≤ 2000000 ∧ RightL 0 es) (f := fun _ => (true, σ)) (x := es) ⟨h, hn, hR⟩ fun _ _ => rfl
theorem ok_ref12_List : Ok_ref12_List w_ref12_List := fun l σ v σ' hx => by
  obtain ⟨es, ⟨hl, hn, hR⟩, e⟩ := wOf_some hx
  injection e with e1 e2
  subst e1; subst e2
  exact call_ok ok (K_ref12_List c_rlist ok_ref12_Right) (L := 2000001) (n := 2) ((ref12_List_eq c_rlist 2000001 l σ _).trans (RList_loop hl hn hR 2000001 0 (by omega) (by omega)))
end Go.Abs.TB
