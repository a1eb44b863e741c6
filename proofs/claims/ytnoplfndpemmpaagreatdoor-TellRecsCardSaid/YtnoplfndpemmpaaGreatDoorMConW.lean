/-
strings.Builder: contracts.
-/
import Derived.Test.YtnoplfndpemmpaaGreatDoorMConP
import Derived.Test.YtnoplfndpemmpaaGreatDoorMConB
namespace Go.Abs.TE
open Go Go.Abs Go.Proofs

/-- What a function does is told by a property of what it leaves. -/
noncomputable def wEx {β : Type} (F : FuncId) (args : List AVal) (av : β → AVal) (Q : β → Heap → Prop) (σ : Heap) : Option (β × Heap) :=
  open Classical in if h : ∃ r : β × Heap, CallOK Tryz.prog T F args σ (av r.1) r.2 ∧ Q r.1 r.2 then some h.choose else none
theorem wEx_ok {β : Type} {F : FuncId} {args : List AVal} {av : β → AVal} {Q : β → Heap → Prop} {σ σ' : Heap} {v : β} (h : wEx F args av Q σ = some (v, σ')) : CallOK Tryz.prog T F args σ (av v) σ' := by
  unfold wEx at h
  split at h
  · rename_i hh
    injection h with h
    have := hh.choose_spec.1
    rw [h] at this
    exact this
  · cases h
theorem wEx_ex {β : Type} {F : FuncId} {args : List AVal} {av : β → AVal} {Q : β → Heap → Prop} {σ σ' : Heap} {v : β} (h : CallOK Tryz.prog T F args σ (av v) σ') (hq : Q v σ') : ∃ v' σ2, wEx F args av Q σ = some (v', σ2) ∧ Q v' σ2 := by
  have hh : ∃ r : β × Heap, CallOK Tryz.prog T F args σ (av r.1) r.2 ∧ Q r.1 r.2 := ⟨(v, σ'), h, hq⟩
  refine ⟨hh.choose.1, hh.choose.2, ?_, hh.choose_spec.2⟩
  unfold wEx
  rw [dif_pos hh]
noncomputable def w_strings_Builder_copyCheck (p : Pt) (σ : Heap) : Option (Unit × Heap) := wEx 95 [.ptr p] tVoid.av (fun _ σ' => ∀ b a buf, p = some (b, 0) → σ[b]? = some (.row [a, buf] .rw) → σ' = σ.set b (.row [.ptr (some (b, 0)), buf] .rw)) σ
theorem ok_strings_Builder_copyCheck : Ok_strings_Builder_copyCheck w_strings_Builder_copyCheck := fun _ _ _ _ h => wEx_ok h
theorem w_copyCheck_eq {σ : Heap} {b : Nat} {a buf : AVal} (hrow : σ[b]? = some (.row [a, buf] .rw)) (ha : a = .ptr none ∨ a = .ptr (some (b, 0))) (ht : σ.typed b 137 2 = true) :
    w_strings_Builder_copyCheck (some (b, 0)) σ = some ((), σ.set b (.row [.ptr (some (b, 0)), buf] .rw)) := by
  obtain ⟨v', σ2, h1, h2⟩ := wEx_ex (av := tVoid.av) (v := ()) (Q := fun _ σ' => ∀ b' a buf, some (b, 0) = some (b', 0) → σ[b']? = some (.row [a, buf] .rw) → σ' = σ.set b' (.row [.ptr (some (b', 0)), buf] .rw)) (check_call hrow (ha.imp (fun h => ⟨h, ht⟩) id) ht) (fun b' a' buf' e h => by
    injection e with e
    injection e with e _
    subst e
    rw [hrow] at h
    injection h with h
    simp only [Blk.row.injEq, List.cons.injEq, and_true] at h
    rw [h.2])
  unfold w_strings_Builder_copyCheck
  rw [h1, h2 b a buf rfl hrow]
/-! ### A builder in memory -/
/-- The builder's buffer. -/
def bufOf (σ : Heap) (b : Nat) : Option Nat := match σ[b]? with
  | some (.row [_, .slice g _ _ _] _) => g
  | _ => none
/-- A builder in block b. -/
structure Bld (σ : Heap) (b : Nat) (xs : List UInt8) : Prop where
  t : σ.typed b 137 2 = true
  row : ∃ a buf, σ[b]? = some (.row [a, buf] .rw) ∧ (a = .ptr none ∨ a = .ptr (some (b, 0))) ∧
    ((buf = .slice none 0 0 1 ∧ xs = []) ∨ ∃ g, buf = .slice (some g) 0 xs.length 1 ∧ xs ≠ [] ∧ g ≠ b ∧ σ[g]? = some (.row (eU8.all xs) .rw) ∧ σ.typed g 5 0 = true)
theorem Bld.lt {σ : Heap} {b : Nat} {xs : List UInt8} (h : Bld σ b xs) : b < σ.length := by
  obtain ⟨a, buf, e, _⟩ := h.row
  exact (List.getElem?_eq_some_iff.1 e).1
theorem Bld.pre {σ σ' : Heap} {b : Nat} {xs : List UInt8} (h : Bld σ b xs) (hp : σ <+: σ') : Bld σ' b xs := by
  obtain ⟨a, buf, e1, e2, e3⟩ := h.row
  refine ⟨typed_pre h.t hp, a, buf, by rw [get_pre hp h.lt]; exact e1, e2, e3.imp id fun ⟨g, g1, g2, g4, g5, g6⟩ => ⟨g, g1, g2, g4, by rw [get_pre hp (List.getElem?_eq_some_iff.1 g5).1]; exact g5, typed_pre g6 hp⟩⟩
theorem Bld.buf_lt {σ : Heap} {b : Nat} {xs : List UInt8} (h : Bld σ b xs) {g : Nat} (hg : bufOf σ b = some g) : g < σ.length := by
  obtain ⟨a, buf, e1, e2, e3⟩ := h.row
  unfold bufOf at hg
  rw [e1] at hg
  rcases e3 with ⟨rfl, _⟩ | ⟨g', rfl, _, _, g5, _⟩
  · cases hg
  · injection hg with hg
    subst hg
    exact (List.getElem?_eq_some_iff.1 g5).1
theorem Bld.uniq {σ : Heap} {b : Nat} {xs ys : List UInt8} (h : Bld σ b xs) (h' : Bld σ b ys) : xs = ys := by
  obtain ⟨a, buf, e1, _, e2⟩ := h.row
  obtain ⟨a', buf', f1, _, f2⟩ := h'.row
  rw [e1] at f1
  injection f1 with f1
  simp only [Blk.row.injEq, List.cons.injEq, and_true] at f1
  obtain ⟨rfl, rfl⟩ := f1
  rcases e2 with ⟨g1, g2⟩ | ⟨g, g1, g2, g4, g5, g6⟩
  · rcases f2 with ⟨k1, k2⟩ | ⟨k, k1, k2, k4, k5, k6⟩
    · rw [g2, k2]
    · rw [g1] at k1; cases k1
  · rcases f2 with ⟨k1, k2⟩ | ⟨k, k1, k2, k4, k5, k6⟩
    · rw [g1] at k1; cases k1
    · rw [g1] at k1
      simp only [AVal.slice.injEq, Option.some.injEq, true_and, and_true] at k1
      obtain ⟨rfl, _⟩ := k1
      rw [g5] at k5
      injection k5 with k5
      simp only [Blk.row.injEq, and_true] at k5
      exact eU8.all_inj (by decide) k5
/-! ### WriteString -/
noncomputable def c_strings_Builder_WriteString : C_strings_Builder_WriteString := { strings_Builder_copyCheck := w_strings_Builder_copyCheck }
/-- What a write leaves. -/
structure Wrt (σ : Heap) (b : Nat) (ys : List UInt8) (σ' : Heap) : Prop where
  bld : Bld σ' b ys
  len : σ.length ≤ σ'.length
  at_ : ∀ c, c < σ.length → c ≠ b → bufOf σ b ≠ some c → σ'[c]? = σ[c]?
  buf : ∀ g, bufOf σ' b = some g → bufOf σ b = some g ∨ σ.length ≤ g
def QW (p : Pt) (s : ByteArray) (σ : Heap) (r : Int × Er) (σ' : Heap) : Prop := ∀ b xs, p = some (b, 0) → Bld σ b xs → r = ((s.size : Int), ⟨true⟩) ∧ Wrt σ b (xs ++ s.data.toList) σ'
noncomputable def w_strings_Builder_WriteString (p : Pt) (s : ByteArray) (σ : Heap) : Option ((Int × Er) × Heap) := wEx 58 [.ptr p, .str s] (tPair (tInt .i64) tErr).av (QW p s σ) σ
theorem ok_strings_Builder_WriteString : Ok_strings_Builder_WriteString w_strings_Builder_WriteString := fun _ _ _ _ _ h => wEx_ok h
theorem str_cells (s : ByteArray) : (s.data.toList.map fun b => AVal.int .u8 b.toNat).take s.size = eU8.all s.data.toList := by
  have h : s.data.toList.length = s.size := by rw [Array.length_toList]; rfl
  rw [List.take_of_length_le (by rw [List.length_map, h]; exact Nat.le_refl _)]
  generalize s.data.toList = l
  induction l with
  | nil => rfl
  | cons x l ih =>
    rw [List.map_cons, ih, El.all_cons]
    rfl
/-- The buffer grows. -/
theorem buf_grows {σ : Heap} {b : Nat} {buf : AVal} {xs : List UInt8} (hb : b < σ.length) (ht : σ.typed b 137 2 = true) (s : List UInt8) (hl : xs.length + s.length ≤ 70368744177664)
    (h : (buf = .slice none 0 0 1 ∧ xs = []) ∨ ∃ g, buf = .slice (some g) 0 xs.length 1 ∧ xs ≠ [] ∧ g ≠ b ∧ σ[g]? = some (.row (eU8.all xs) .rw) ∧ σ.typed g 5 0 = true) :
    ∃ bo no q σ2, slice? (some buf) 1 = some (bo, 0, no) ∧ Heap.appendT σ bo 0 no 1 1 (eU8.all s) s.length 5 = some (q, σ2) ∧ σ.length ≤ σ2.length ∧ σ2[b]? = σ[b]? ∧ σ2.typed b 137 2 = true ∧
      (∀ c, c < σ.length → bo ≠ some c → σ2[c]? = σ[c]?) ∧
      ((q = (none, 0, 0) ∧ xs ++ s = []) ∨ ∃ g, q = (some g, 0, (xs ++ s).length) ∧ xs ++ s ≠ [] ∧ (bo = some g ∨ σ.length ≤ g) ∧ g ≠ b ∧ σ2[g]? = some (.row (eU8.all (xs ++ s)) .rw) ∧ σ2.typed g 5 0 = true) := by
  have hal : ∀ l : List UInt8, (eU8.all l).length = l.length := fun l => by rw [El.all_len]; show l.length * 1 = _; omega
  have happ : ∀ l m : List UInt8, eU8.all (l ++ m) = eU8.all l ++ eU8.all m := fun l m => El.all_append ..
  rcases h with ⟨rfl, rfl⟩ | ⟨g, rfl, g2, g4, g5, g6⟩
  · by_cases h0 : s = []
    · subst h0
      exact ⟨none, 0, (none, 0, 0), σ, rfl, rfl, Nat.le_refl _, rfl, ht, fun _ _ _ => rfl, .inl ⟨rfl, rfl⟩⟩
    · have hz : s.length ≠ 0 := fun e => h0 (List.eq_nil_of_length_eq_zero e)
      refine ⟨none, 0, (some σ.length, 0, s.length), σ ++ [.row (eU8.all s) .rw] ++ [.tys σ.length 5 0], rfl, ?_, by simp, ?_, ?_, fun c hc _ => ?_, .inr ⟨σ.length, by rw [List.nil_append], by rw [List.nil_append]; exact h0, .inr (Nat.le_refl _), by omega, ?_, typed_new⟩⟩
      · unfold Heap.appendT Heap.append
        simp only [Nat.zero_add, Nat.mul_one]
        rw [if_neg hz, if_pos ⟨by omega, by omega, hal s⟩]
        rfl
      · rw [List.append_assoc, List.getElem?_append_left hb]
      · exact typed_pre ht (by rw [List.append_assoc]; exact List.prefix_append ..)
      · rw [List.append_assoc, List.getElem?_append_left hc]
      · rw [List.nil_append, List.append_assoc, List.getElem?_append_right (Nat.le_refl _), Nat.sub_self]
        rfl
  · have hgl := (List.getElem?_eq_some_iff.1 g5).1
    by_cases h0 : s = []
    · subst h0
      refine ⟨some g, xs.length, (some g, 0, xs.length), σ ++ [.tys g 5 0], rfl, ?_, by simp, by rw [List.getElem?_append_left hb], typed_pre ht (List.prefix_append ..), fun c hc _ => by rw [List.getElem?_append_left hc], .inr ⟨g, by rw [List.append_nil], by rw [List.append_nil]; exact g2, .inl rfl, g4, by rw [List.append_nil, List.getElem?_append_left hgl]; exact g5, typed_new⟩⟩
      unfold Heap.appendT Heap.append
      simp only [List.length_nil, g6, if_true]
      rfl
    · have hz : s.length ≠ 0 := fun e => h0 (List.eq_nil_of_length_eq_zero e)
      have hset : (σ.set g (.row [] .dead)).length = σ.length := List.length_set ..
      refine ⟨some g, xs.length, (some σ.length, 0, xs.length + s.length), σ.set g (.row [] .dead) ++ [.row (eU8.all (xs ++ s)) .rw] ++ [.tys σ.length 5 0], rfl, ?_, by simp, ?_, ?_, fun c hc hne => ?_, .inr ⟨σ.length, by rw [List.length_append], by simp [h0], .inr (Nat.le_refl _), by omega, ?_, typed_new⟩⟩
      · unfold Heap.appendT Heap.append
        simp only [Nat.mul_one, g6, Nat.zero_add]
        rw [if_neg hz, if_pos ⟨by omega, by omega, hal s⟩, g5]
        dsimp only
        rw [if_pos (by rw [hal]; exact Nat.le_refl _), List.drop_zero, List.take_of_length_le (by rw [hal]; exact Nat.le_refl _), ← happ]
        rfl
      · rw [List.append_assoc, List.getElem?_append_left (by omega), List.getElem?_set_ne g4]
      · exact typed_pre (typed_set ht g5 rfl) (by rw [List.append_assoc]; exact List.prefix_append ..)
      · rw [List.append_assoc, List.getElem?_append_left (by omega), List.getElem?_set_ne (fun e => hne (by rw [e]))]
      · rw [List.append_assoc, List.getElem?_append_right (by omega), hset, Nat.sub_self]
        rfl
theorem w_WriteString_eq {σ : Heap} {b : Nat} {xs : List UInt8} (h : Bld σ b xs) (s : ByteArray) (hl : xs.length + s.size ≤ 70368744177664) :
    ∃ σ', w_strings_Builder_WriteString (some (b, 0)) s σ = some (((s.size : Int), ⟨true⟩), σ') ∧ Wrt σ b (xs ++ s.data.toList) σ' := by
  have hsz : s.data.toList.length = s.size := by rw [Array.length_toList]; rfl
  obtain ⟨a, buf, e1, e2, e3⟩ := h.row
  have hb := h.lt
  have p1 : c_strings_Builder_WriteString.strings_Builder_copyCheck = w_strings_Builder_copyCheck := rfl
  have hr := strings_Builder_WriteString_eq (R := AVal × Heap) c_strings_Builder_WriteString 0 (some (b, 0)) s σ fun v σ => some (v, σ)
  rw [p1, w_copyCheck_eq e1 e2 h.t, Option.bind_some, str_cells] at hr
  simp only [Option.bind_some] at hr
  have hrow1 : (σ.set b (.row [.ptr (some (b, 0)), buf] .rw))[b]? = some (.row [.ptr (some (b, 0)), buf] .rw) := List.getElem?_set_self hb
  have hc : Heap.cell? (σ.set b (.row [.ptr (some (b, 0)), buf] .rw)) b (0 + 1) = some buf := by
    unfold Heap.cell?
    rw [row?_of hrow1 (by simp)]
    rfl
  have hlen1 : (σ.set b (.row [.ptr (some (b, 0)), buf] .rw)).length = σ.length := List.length_set ..
  have hat1 : ∀ c, c ≠ b → (σ.set b (.row [.ptr (some (b, 0)), buf] .rw))[c]? = σ[c]? := fun c hc => List.getElem?_set_ne (Ne.symm hc)
  obtain ⟨bo, no, q, σ2, k0, k1, k2, k3, k4, k5, k6⟩ := buf_grows (σ := σ.set b (.row [.ptr (some (b, 0)), buf] .rw)) (by rw [hlen1]; exact hb) (typed_set h.t e1 rfl) s.data.toList (by rw [hsz]; exact hl)
    (e3.imp id fun ⟨g, g1, g2, g4, g5, g6⟩ => ⟨g, g1, g2, g4, by rw [hat1 g g4]; exact g5, typed_set g6 e1 rfl⟩)
  rw [hlen1] at k2 k5 k6
  have hbo : bufOf σ b = bo := by
    unfold bufOf
    rw [e1]
    rcases e3 with ⟨rfl, _⟩ | ⟨g, rfl, _⟩
    · injection k0 with k0; injection k0
    · injection k0 with k0; injection k0
  rw [hc, k0, Option.bind_some] at hr
  dsimp only at hr
  rw [← hsz, k1, Option.bind_some] at hr
  have hrow2 : σ2[b]? = some (.row [.ptr (some (b, 0)), buf] .rw) := by rw [k3]; exact hrow1
  have hst : σ2.store b (0 + 1) [.slice q.1 q.2.1 q.2.2 1] = some (σ2.set b (.row [.ptr (some (b, 0)), .slice q.1 q.2.1 q.2.2 1] .rw)) := by
    unfold Heap.store
    rw [hrow2]
    rfl
  dsimp only at hr
  rw [hst, Option.bind_some] at hr
  have hb2 := (List.getElem?_eq_some_iff.1 hrow2).1
  have hW : Wrt σ b (xs ++ s.data.toList) (σ2.set b (.row [.ptr (some (b, 0)), .slice q.1 q.2.1 q.2.2 1] .rw)) := by
    refine ⟨⟨typed_set k4 hrow2 rfl, _, _, List.getElem?_set_self hb2, .inr rfl, ?_⟩, by rw [List.length_set]; omega, fun c hc1 hc2 hc3 => ?_, fun g hg => ?_⟩
    · rcases k6 with ⟨rfl, k7⟩ | ⟨g, rfl, k7, k8, k9, k10, k11⟩
      · exact .inl ⟨rfl, k7⟩
      · exact .inr ⟨g, rfl, k7, k9, by rw [List.getElem?_set_ne (Ne.symm k9)]; exact k10, typed_set k11 hrow2 rfl⟩
    · rw [List.getElem?_set_ne (Ne.symm hc2), k5 c hc1 (by rw [← hbo]; exact hc3), hat1 c hc2]
    · unfold bufOf at hg
      rw [List.getElem?_set_self hb2] at hg
      have hg' : q.1 = some g := hg
      rcases k6 with ⟨rfl, k7⟩ | ⟨g', rfl, k7, k8, k9, k10, k11⟩
      · cases hg'
      · injection hg' with hg'
        subst hg'
        rw [hbo]
        exact k8
  have hcall := call_ok ok (K_strings_Builder_WriteString c_strings_Builder_WriteString ok_strings_Builder_copyCheck) hr
  have hcall' : CallOK Tryz.prog T 58 [.ptr (some (b, 0)), .str s] σ ((tPair (tInt .i64) tErr).av ((s.size : Int), ⟨true⟩)) (σ2.set b (.row [.ptr (some (b, 0)), .slice q.1 q.2.1 q.2.2 1] .rw)) := by
    intro ρ ws w hH hG hw
    refine Calls.mono (hcall ρ ws w hH hG hw) fun e w' ⟨cv, ρ', he, q1, q2, q3⟩ => ⟨cv, ρ', he, q1, ?_, q3⟩
    simp only [VRel, VRels, tPair, tInt, tErr] at q2 ⊢
    rw [hsz] at q2
    exact q2
  obtain ⟨v', σ', r1, r2⟩ := wEx_ex (Q := QW (some (b, 0)) s σ) hcall' (fun b' xs' e h' => by
    injection e with e
    injection e with e _
    subst e
    obtain rfl := h'.uniq h
    exact ⟨rfl, hW⟩)
  obtain ⟨r3, r4⟩ := r2 b xs rfl h
  subst r3
  exact ⟨σ', r1, r4⟩
/-! ### String -/
def QS (p : Pt) (σ : Heap) (r : ByteArray) (σ' : Heap) : Prop := ∀ b xs, p = some (b, 0) → Bld σ b xs → r = ba xs ∧ σ.length ≤ σ'.length ∧ ∀ c, c < σ.length → bufOf σ b ≠ some c → σ'[c]? = σ[c]?
noncomputable def w_strings_Builder_String (p : Pt) (σ : Heap) : Option (ByteArray × Heap) := wEx 59 [.ptr p] tStr.av (QS p σ) σ
theorem ok_strings_Builder_String : Ok_strings_Builder_String w_strings_Builder_String := fun _ _ _ _ h => wEx_ok h
theorem bytesX_all (xs : List UInt8) : bytesX (eU8.all xs) = some xs := by
  induction xs with
  | nil => rfl
  | cons x xs ih =>
    rw [El.all_cons]
    show bytesX (.int .u8 (x.toNat : Int) :: eU8.all xs) = _
    have : UInt8.ofNat (x.toNat : Int).toNat = x := by simp
    simp only [bytesX, this, ih]
    rfl
theorem w_BString_eq {σ : Heap} {b : Nat} {xs : List UInt8} (h : Bld σ b xs) (hl : xs.length ≤ 70368744177664) :
    ∃ σ', w_strings_Builder_String (some (b, 0)) σ = some (ba xs, σ') ∧ σ.length ≤ σ'.length ∧ ∀ c, c < σ.length → bufOf σ b ≠ some c → σ'[c]? = σ[c]? := by
  obtain ⟨a, buf, e1, e2, e3⟩ := h.row
  have hr := strings_Builder_String_eq (R := AVal × Heap) 0 (some (b, 0)) σ fun v σ => some (v, σ)
  have hal : ∀ l : List UInt8, (eU8.all l).length = l.length := fun l => by rw [El.all_len]; show l.length * 1 = _; omega
  have hc : Heap.cell? σ b (0 + 1) = some buf := by
    unfold Heap.cell?
    rw [row?_of e1 (by simp)]
    rfl
  simp only [Option.bind_some, hc] at hr
  have core : ∃ σ', callC T known0 0 2 59 [.ptr (some (b, 0))] σ (fun v σ => some (v, σ)) = some (.str (ba xs), σ') ∧ σ.length ≤ σ'.length ∧ ∀ c, c < σ.length → bufOf σ b ≠ some c → σ'[c]? = σ[c]? := by
    rcases e3 with ⟨rfl, rfl⟩ | ⟨g, rfl, g2, g4, g5, g6⟩
    · exact ⟨σ, hr.trans rfl, Nat.le_refl _, fun _ _ _ => rfl⟩
    · have hxl := List.length_pos_iff.2 g2
      refine ⟨σ.set g (.row [] .dead), hr.trans ?_, by rw [List.length_set]; exact Nat.le_refl _, fun c _ hne => ?_⟩
      · have hs : slice? (some (AVal.slice (some g) 0 xs.length 1)) 1 = some (some g, 0, xs.length) := rfl
        simp only [hs, Option.bind_some, sliceData]
        rw [decide_eq_true hxl]
        dsimp only [Option.bind_some]
        have ht : Heap.textOf σ (some (g, 0)) (xs.length : Int) 5 = some (ba xs, σ.set g (.row [] .dead)) := by
          unfold Heap.textOf
          dsimp only
          rw [decide_eq_true rfl, decide_eq_true (show (0 : Int) < (xs.length : Int) by omega), decide_eq_true (show (xs.length : Int) ≤ 9223372036854775807 by omega), g6]
          simp only [Bool.and_true, Bool.true_and]
          rw [g5]
          dsimp only
          rw [Int.toNat_natCast, decide_eq_true (by rw [hal]; exact Nat.le_refl _)]
          dsimp only
          rw [List.take_of_length_le (by rw [hal]; exact Nat.le_refl _), bytesX_all]
          rfl
        rw [ht]
        rfl
      · rw [List.getElem?_set_ne (fun e => hne (by subst e; unfold bufOf; rw [e1]))]
  obtain ⟨σ', c1, c2, c3⟩ := core
  obtain ⟨v', σ3, r1, r2⟩ := wEx_ex (av := tStr.av) (v := ba xs) (Q := QS (some (b, 0)) σ) (call_ok ok known0_ok c1) (fun b' xs' e h' => by
    injection e with e
    injection e with e _
    subst e
    obtain rfl := h'.uniq h
    exact ⟨rfl, c2, c3⟩)
  obtain ⟨r3, r4, r5⟩ := r2 b xs rfl h
  subst r3
  exact ⟨σ3, r1, r4, r5⟩
end Go.Abs.TE
