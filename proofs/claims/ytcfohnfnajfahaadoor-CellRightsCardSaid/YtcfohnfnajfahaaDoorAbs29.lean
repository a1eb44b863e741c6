/-
A list that came in, is the caller's own, and grows.
-/
import Derived.Test.YtcfohnfnajfahaaDoorAbs28
namespace Go.Abs
open Go
variable {α : Type}
/-- What is handed back where something was appended. -/
def grow (E : El α) (σ : Heap) (s : Sl) (zs : List α) : Sl × Heap :=
  match s.b with
  | none => (⟨some σ.length, 0, zs.length⟩, σ ++ [.row (E.all zs) .rw])
  | some c => (⟨some σ.length, 0, zs.length⟩, σ.set c (.row [] .dead) ++ [.row (E.all zs) .rw])
section
variable {E : El α} {σ σ1 : Heap} {s q : Sl} {ys zs : List α}
theorem grow_fst : (grow E σ s zs).1 = ⟨some σ.length, 0, zs.length⟩ := by
  unfold grow
  split <;> rfl
theorem grow_own : (grow E σ s zs).1.Own E (grow E σ s zs).2 zs := by
  unfold grow
  split
  · exact Sl.Own.new
  · rename_i c _
    have e := get_push (σ.set c (.row [] .dead)) (.row (E.all zs) .rw)
    rw [List.length_set] at e
    exact .row _ rfl rfl rfl e
theorem grow_kept : Kept s σ (grow E σ s zs).2 := by
  unfold grow
  split
  · exact ⟨by simp, fun b hb _ => List.getElem?_append_left hb⟩
  · rename_i c hc
    refine ⟨by simp, fun b hb hne => ?_⟩
    rw [List.getElem?_append_left (by simp; exact hb), List.getElem?_set_ne]
    intro e
    exact hne (by rw [hc, e])
theorem call_grow {P : Program} {T : Tab} {f : FuncId} {args : List AVal} {z : Nat} (h : CallOK P T f args σ (.slice q.b q.o q.n z) σ1) (hs : s.Own E σ ys) (ho : q.Own E σ1 zs) (hz : zs ≠ [])
    (hk : Kept s σ σ1) (hc : ∀ c, q.b = some c → σ.length ≤ c) : CallOK P T f args σ (.slice (grow E σ s zs).1.b (grow E σ s zs).1.o (grow E σ s zs).1.n z) (grow E σ s zs).2 := by
  cases ho with
  | nil _ _ _ hx => exact absurd hx hz
  | row c hb ho' hn' hr =>
    have hc' := hc c hb
    rw [grow_fst]
    rw [hb, ho', hn'] at h
    cases hs with
    | nil hsb _ _ _ =>
      unfold grow
      rw [hsb]
      exact call_gc1 h (fun b hb => hk.at_ b hb (by rw [hsb]; simp)) hc' hr (E.all_flat zs) (by simp [AVal.ren]) (by simp [AVal.refs])
    | row c0 hsb _ _ hsr =>
      unfold grow
      rw [hsb]
      have hl0 := (List.getElem?_eq_some_iff.1 hsr).1
      refine call_gc h (fun b => if b < σ.length then b else c) (by simp) (fun b hb => by simp [hb]) (fun b b' hb hb' e => ?_) (fun b x hx hl => ?_) (fun b x hx hro => ?_) (fun b x hx hro => ?_) (by simp [AVal.ren]) (by simp [AVal.refs])
      · simp only [List.length_append, List.length_set, List.length_singleton] at hb hb'
        by_cases h1 : b < σ.length <;> by_cases h2 : b' < σ.length <;> simp only [h1, h2, if_true, if_false] at e <;> omega
      · rcases Nat.lt_or_ge b σ.length with hbl | hbl
        · rw [List.getElem?_append_left (by simp; exact hbl)] at hx
          by_cases hbc : c0 = b
          · subst hbc
            rw [List.getElem?_set_self (by exact hbl)] at hx
            injection hx with hx
            subst hx
            cases hl
          · rw [List.getElem?_set_ne hbc] at hx
            exact .inr ⟨hx, by rw [hk.at_ b hbl (by rw [hsb]; simpa using hbc)]; exact hx⟩
        · rw [List.getElem?_append_right (by simp; exact hbl)] at hx
          have e : b = σ.length := by
            have := (List.getElem?_eq_some_iff.1 hx).1
            simp at this; omega
          subst e
          simp at hx
          subst hx
          refine .inl ⟨?_, flats_refs (E.all_flat zs)⟩
          simp only [Nat.lt_irrefl, if_false, hr, Blk.ren, flats_ren (E.all_flat zs)]
      · have hbl := (List.getElem?_eq_some_iff.1 hx).1
        rw [List.getElem?_append_left (by simp; exact hbl)]
        rw [List.getElem?_set_ne]
        · exact hx
        · rintro rfl
          rw [hsr] at hx
          injection hx with hx
          subst hx
          cases hro
      · rcases Nat.lt_or_ge b σ.length with hbl | hbl
        · rw [List.getElem?_append_left (by simp; exact hbl)] at hx
          by_cases hbc : c0 = b
          · subst hbc
            rw [List.getElem?_set_self (by exact hbl)] at hx
            injection hx with hx
            subst hx
            cases hro
          · rw [List.getElem?_set_ne hbc] at hx
            exact hx
        · rw [List.getElem?_append_right (by simp; exact hbl)] at hx
          have e : b = σ.length := by
            have := (List.getElem?_eq_some_iff.1 hx).1
            simp at this; omega
          subst e
          simp at hx
          subst hx
          cases hro
theorem append_new {σ σ' : Heap} {b : Option Nat} {o n z bytes k : Nat} {vs : List AVal} {q : Option Nat × Nat × Nat} (h : σ.append b o n z bytes vs k = some (q, σ')) (hk : k ≠ 0) : ∀ c, q.1 = some c → c = σ.length := by
  intro c hc
  unfold Heap.append at h
  rw [if_neg hk] at h
  split at h
  · split at h
    · injection h with h
      injection h with h1 h2
      rw [← h1] at hc
      injection hc with hc
      exact hc.symm
    · split at h
      · split at h
        · injection h with h
          injection h with h1 h2
          rw [← h1] at hc
          injection hc with hc
          exact hc.symm
        · cases h
      · cases h
  · cases h
/-- The caller's own list, grown. -/
structure Grown (E : El α) (s : Sl) (σ0 : Heap) (b : Sl) (σ : Heap) (ys : List α) : Prop where
  own : b.Own E σ ys
  kept : Kept s σ0 σ
  new : ∀ c, b.b = some c → s.b = some c ∨ σ0.length ≤ c
theorem Grown.start {σ0 : Heap} (h : s.Own E σ0 ys) : Grown E s σ0 s σ0 ys := ⟨h, ⟨Nat.le_refl _, fun _ _ _ => rfl⟩, fun _ h => .inl h⟩
theorem Grown.append {σ0 : Heap} {b : Sl} (h : Grown E s σ0 b σ ys) {bytes : Nat} {vs : List AVal} {k : Nat} (hv : vs = E.all zs) (hk : k = zs.length) (hz : zs ≠ []) (hb1 : (ys.length + zs.length) * bytes ≤ 70368744177664) (hb2 : ys.length + zs.length ≤ 70368744177664) :
    ∃ q σ', σ.append b.b b.o b.n E.z bytes vs k = some (q, σ') ∧ Grown E s σ0 ⟨q.1, q.2.1, q.2.2⟩ σ' (ys ++ zs) ∧ ∀ c, q.1 = some c → σ0.length ≤ c := by
  obtain ⟨q, σ', h1, h2, h3, _⟩ := append_own h.own hv hk hb1 hb2
  have hk0 : k ≠ 0 := by rw [hk]; intro e; exact hz (List.eq_nil_of_length_eq_zero e)
  have hn : ∀ c, q.1 = some c → σ0.length ≤ c := fun c hc => by
    have := append_new h1 hk0 c hc
    have := h.kept.len
    omega
  refine ⟨q, σ', h1, ⟨h2, ⟨Nat.le_trans h.kept.len h3.len, fun c hc hne => ?_⟩, fun c hc => .inr (hn c hc)⟩, hn⟩
  have := h.kept.len
  rw [h3.at_ c (by omega) (fun e => by
    rcases h.new c e with h4 | h4
    · exact hne h4
    · omega)]
  exact h.kept.at_ c hc hne
theorem Sl.Own.uniq (hz : 0 < E.z) (h : s.Own E σ ys) (h' : s.Own E σ zs) : ys = zs := by
  cases h with
  | nil hb _ _ hx =>
    cases h' with
    | nil _ _ _ hx' => rw [hx, hx']
    | row c hb' _ _ _ => rw [hb] at hb'; cases hb'
  | row c hb _ _ hr =>
    cases h' with
    | nil hb' _ _ _ => rw [hb] at hb'; cases hb'
    | row c' hb' _ _ hr' =>
      rw [hb] at hb'
      injection hb' with hb'
      subst hb'
      rw [hr] at hr'
      injection hr' with hr'
      injection hr' with hr'
      exact E.all_inj hz hr'
end
end Go.Abs
