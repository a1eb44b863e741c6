/-
Lists in memory: what is read, made, appended, told by Lean's lists.
-/
import Derived.Test.YtcfohnfnajfahaaDoorAbs26
import Derived.Laws.BitsLemmas
namespace Go.Abs
open Go

/-! ### Memory that grows -/
theorem row?_lt {σ : Heap} {b : Nat} {cs : List AVal} (h : σ.row? b = some cs) : b < σ.length := by
  obtain ⟨m, hm, _⟩ := row?_some h
  exact (List.getElem?_eq_some_iff.1 hm).1
theorem row?_of {σ : Heap} {b : Nat} {cs : List AVal} {m : Mode} (h : σ[b]? = some (.row cs m)) (hm : m ≠ .dead) : σ.row? b = some cs := by
  unfold Heap.row?
  rw [h]
  cases m with
  | dead => exact absurd rfl hm
  | ro => rfl
  | rw => rfl
theorem row?_congr {σ σ' : Heap} {b : Nat} (h : σ'[b]? = σ[b]?) : σ'.row? b = σ.row? b := by
  unfold Heap.row?
  rw [h]
theorem get_pre {σ σ' : Heap} (h : σ <+: σ') {b : Nat} (hb : b < σ.length) : σ'[b]? = σ[b]? := by
  obtain ⟨τ, rfl⟩ := h
  exact List.getElem?_append_left hb
theorem row?_pre {σ σ' : Heap} (h : σ <+: σ') {b : Nat} {cs : List AVal} (hr : σ.row? b = some cs) : σ'.row? b = some cs := by
  rw [row?_congr (get_pre h (row?_lt hr)), hr]
theorem pre_push (σ : Heap) (x : Blk) : σ <+: σ ++ [x] := List.prefix_append ..
theorem get_push (σ : Heap) (x : Blk) : (σ ++ [x])[σ.length]? = some x := by simp
theorem len_frz (σ : Heap) : σ.frz.length = σ.length := by simp [Heap.frz]
theorem back_frz_append (σ τ : Heap) : σ.back (σ.frz ++ τ) = σ ++ τ := by
  unfold Heap.back
  rw [← len_frz σ, List.drop_left]
theorem back_pre {σ σ' : Heap} (h : σ.frz <+: σ') : ∃ τ, σ' = σ.frz ++ τ ∧ σ.back σ' = σ ++ τ := by
  obtain ⟨τ, rfl⟩ := h
  exact ⟨τ, rfl, back_frz_append σ τ⟩

theorem pre_of_get {σ σ' : Heap} (hl : σ.length ≤ σ'.length) (h : ∀ b, b < σ.length → σ'[b]? = σ[b]?) : σ <+: σ' := by
  rw [List.prefix_iff_eq_take]
  apply List.ext_getElem?
  intro i
  by_cases hi : i < σ.length
  · rw [List.getElem?_take, if_pos hi, h i hi]
  · rw [List.getElem?_eq_none (by omega), List.getElem?_eq_none (by simp; omega)]

/-! ### Elements -/
/-- How an element lies in cells. -/
structure El (α : Type) where
  z : Nat
  en : α → List AVal
  len : ∀ a, (en a).length = z
  inj : ∀ a b, en a = en b → a = b
  flat : ∀ a, flats (en a) = true
variable {α : Type}
def El.all (E : El α) (xs : List α) : List AVal := (xs.map E.en).flatten
theorem El.all_len (E : El α) (xs : List α) : (E.all xs).length = xs.length * E.z := by
  unfold El.all
  induction xs with
  | nil => simp
  | cons x xs ih => simp [E.len x, ih, Nat.add_mul]; omega
theorem El.all_append (E : El α) (xs ys : List α) : E.all (xs ++ ys) = E.all xs ++ E.all ys := by simp [El.all]
theorem El.all_cons (E : El α) (x : α) (ys : List α) : E.all (x :: ys) = E.en x ++ E.all ys := by simp [El.all]
theorem El.all_nil (E : El α) : E.all [] = [] := rfl
theorem flats_append : ∀ {xs ys : List AVal}, flats xs = true → flats ys = true → flats (xs ++ ys) = true
  | [], _, _, h => h
  | x :: xs, ys, h, h' => by
    simp only [flats, Bool.and_eq_true] at h
    simp only [List.cons_append, flats, Bool.and_eq_true]
    exact ⟨h.1, flats_append h.2 h'⟩
theorem El.all_flat (E : El α) : ∀ (xs : List α), flats (E.all xs) = true
  | [] => rfl
  | x :: xs => by
    rw [E.all_cons]
    exact flats_append (E.flat x) (E.all_flat xs)
theorem El.all_get (E : El α) : ∀ (xs : List α) (i j : Nat) (x : α), xs[i]? = some x → j < E.z → (E.all xs)[i * E.z + j]? = (E.en x)[j]?
  | [], i, j, x, h, _ => by simp at h
  | y :: ys, 0, j, x, h, hj => by
    simp at h
    subst h
    rw [E.all_cons, Nat.zero_mul, Nat.zero_add, List.getElem?_append_left (by rw [E.len]; exact hj)]
  | y :: ys, i + 1, j, x, h, hj => by
    simp at h
    rw [E.all_cons, List.getElem?_append_right (by rw [E.len, Nat.add_mul]; omega), E.len, show (i + 1) * E.z + j - E.z = i * E.z + j by rw [Nat.add_mul]; omega]
    exact E.all_get ys i j x h hj
theorem El.all_take (E : El α) (xs : List α) (n : Nat) : (E.all xs).take (n * E.z) = E.all (xs.take n) := by
  induction xs generalizing n with
  | nil => simp [El.all]
  | cons x xs ih =>
    cases n with
    | zero => simp [El.all]
    | succ n =>
      rw [List.take_succ_cons, E.all_cons, E.all_cons, List.take_append, E.len, show (n + 1) * E.z - E.z = n * E.z by rw [Nat.add_mul]; omega, ih, List.take_of_length_le (by rw [E.len, Nat.add_mul]; omega)]
theorem El.all_drop (E : El α) (xs : List α) (n : Nat) : (E.all xs).drop (n * E.z) = E.all (xs.drop n) := by
  induction xs generalizing n with
  | nil => simp [El.all]
  | cons x xs ih =>
    cases n with
    | zero => simp [El.all]
    | succ n =>
      rw [List.drop_succ_cons, E.all_cons, List.drop_append, E.len, show (n + 1) * E.z - E.z = n * E.z by rw [Nat.add_mul]; omega, ih, List.drop_of_length_le (by rw [E.len, Nat.add_mul]; omega), List.nil_append]
theorem El.all_inj (E : El α) (hz : 0 < E.z) : ∀ {xs ys : List α}, E.all xs = E.all ys → xs = ys
  | [], [], _ => rfl
  | [], y :: ys, h => by
    have := congrArg List.length h
    rw [E.all_len, E.all_len] at this
    have h2 : 0 < (y :: ys).length * E.z := Nat.mul_pos (by simp) hz
    rw [← this] at h2
    simp at h2
  | x :: xs, [], h => by
    have := congrArg List.length h
    rw [E.all_len, E.all_len] at this
    have h2 : 0 < (x :: xs).length * E.z := Nat.mul_pos (by simp) hz
    rw [this] at h2
    simp at h2
  | x :: xs, y :: ys, h => by
    rw [E.all_cons, E.all_cons] at h
    obtain ⟨h1, h2⟩ := List.append_inj h (by rw [E.len, E.len])
    rw [E.inj _ _ h1, E.all_inj hz h2]

/-! ### Slices that can be read -/
/-- The slice's elements are these. -/
structure Sl.Is (s : Sl) (E : El α) (σ : Heap) (xs : List α) : Prop where
  n : s.n = xs.length
  small : xs.length ≤ 1099511627776
  at_ : (s.b = none ∧ s.o = 0 ∧ xs = []) ∨ ∃ b cs, s.b = some b ∧ σ.row? b = some cs ∧ (cs.drop s.o).take (xs.length * E.z) = E.all xs ∧ s.o + xs.length * E.z ≤ cs.length
section
variable {s : Sl} {E : El α} {σ σ' : Heap} {xs : List α}
theorem Sl.Is.of_row (hs : s.Is E σ xs) (h : ∀ b cs, s.b = some b → σ.row? b = some cs → σ'.row? b = some cs) : s.Is E σ' xs :=
  ⟨hs.n, hs.small, hs.at_.imp (fun h => h) fun ⟨b, cs, h1, h2, h3⟩ => ⟨b, cs, h1, h b cs h1 h2, h3⟩⟩
theorem Sl.Is.pre (hs : s.Is E σ xs) (h : σ <+: σ') : s.Is E σ' xs := hs.of_row fun _ _ _ hr => row?_pre h hr
theorem Sl.Is.frz (hs : s.Is E σ xs) : s.Is E σ.frz xs := hs.of_row fun b _ _ hr => by rw [Heap.row?_frz]; exact hr
theorem Sl.Is.of_frz (hs : s.Is E σ.frz xs) : s.Is E σ xs := hs.of_row fun b _ _ hr => by rw [Heap.row?_frz] at hr; exact hr
theorem Sl.Is.uniq (hz : 0 < E.z) {ys : List α} (h : s.Is E σ xs) (h' : s.Is E σ ys) : xs = ys := by
  have hl : xs.length = ys.length := h.n.symm.trans h'.n
  rcases h.at_ with ⟨h1, _, rfl⟩ | ⟨b, cs, h1, h2, h3, _⟩
  · exact (List.eq_nil_of_length_eq_zero hl.symm).symm
  · rcases h'.at_ with ⟨g1, _, rfl⟩ | ⟨b', cs', g1, g2, g3, _⟩
    · exact List.eq_nil_of_length_eq_zero hl
    · rw [h1] at g1
      injection g1 with g1
      subst g1
      rw [h2] at g2
      injection g2 with g2
      subst g2
      rw [hl, g3] at h3
      exact (E.all_inj hz h3).symm
theorem Sl.Is.lt {b : Nat} (h : s.Is E σ xs) (hb : s.b = some b) : b < σ.length := by
  rcases h.at_ with ⟨h1, _⟩ | ⟨b', cs, h1, h2, _⟩
  · rw [hb] at h1; cases h1
  · rw [hb] at h1
    injection h1 with h1
    subst h1
    exact row?_lt h2
/-- A cell of an element. -/
theorem Sl.Is.cell (h : s.Is E σ xs) {i : Nat} {x : α} (hi : xs[i]? = some x) : ∃ b, s.b = some b ∧ ∀ j, j < E.z → σ.cell? b (s.o + i * E.z + j) = (E.en x)[j]? := by
  rcases h.at_ with ⟨h1, _, rfl⟩ | ⟨b, cs, h1, h2, h3, h4⟩
  · simp at hi
  · refine ⟨b, h1, fun j hj => ?_⟩
    have hlt := (List.getElem?_eq_some_iff.1 hi).1
    have := E.all_get xs i j x hi hj
    rw [← h3] at this
    rw [← this, Heap.cell?, h2, Option.bind_some, List.getElem?_take, List.getElem?_drop, Nat.add_assoc]
    rw [if_pos]
    calc i * E.z + j < i * E.z + E.z := by omega
      _ = (i + 1) * E.z := by rw [Nat.add_mul]; omega
      _ ≤ xs.length * E.z := Nat.mul_le_mul_right _ hlt
theorem Sl.Is.read (h : s.Is E σ xs) : σ.read s.b s.o s.n E.z = some (E.all xs) := by
  unfold Heap.read
  rw [h.n]
  rcases h.at_ with ⟨h1, _, rfl⟩ | ⟨b, cs, h1, h2, h3, h4⟩
  · rw [h1]; rfl
  · rw [h1]
    simp only [h2, Option.bind_some, h3]
    rw [if_pos h4]
theorem Sl.Is.readn (h : s.Is E σ xs) {m : Nat} (hm : m ≤ xs.length) : σ.read s.b s.o m E.z = some (E.all (xs.take m)) := by
  unfold Heap.read
  rcases h.at_ with ⟨h1, _, rfl⟩ | ⟨b, cs, h1, h2, h3, h4⟩
  · rw [h1]; simp [El.all]
  · rw [h1]
    have hmz : m * E.z ≤ xs.length * E.z := Nat.mul_le_mul_right _ hm
    simp only [h2, Option.bind_some]
    rw [if_pos (by omega), ← E.all_take, ← h3, List.take_take, Nat.min_eq_left hmz]
theorem Sl.Is.drop (h : s.Is E σ xs) {k : Nat} (hk : k ≤ xs.length) : Sl.Is ⟨s.b, s.o + k * E.z, s.n - k⟩ E σ (xs.drop k) := by
  refine ⟨by simp [h.n], by have := h.small; simp; omega, ?_⟩
  rcases h.at_ with ⟨h1, h0, rfl⟩ | ⟨b, cs, h1, h2, h3, h4⟩
  · simp at hk
    subst hk
    exact .inl ⟨h1, by simp [h0], rfl⟩
  · have e : (xs.length - k) * E.z + k * E.z = xs.length * E.z := by rw [← Nat.add_mul]; congr 1; omega
    refine .inr ⟨b, cs, h1, h2, ?_, ?_⟩
    · rw [List.length_drop, ← E.all_drop, ← h3, List.drop_take, List.drop_drop]
      congr 1
      rw [Nat.sub_mul]
    · simp only [List.length_drop]; omega
theorem Sl.Is.take (h : s.Is E σ xs) {k : Nat} (hk : k ≤ xs.length) : Sl.Is ⟨s.b, s.o, k⟩ E σ (xs.take k) := by
  refine ⟨by simp; omega, by have := h.small; simp; omega, ?_⟩
  rcases h.at_ with ⟨h1, h0, rfl⟩ | ⟨b, cs, h1, h2, h3, h4⟩
  · exact .inl ⟨h1, h0, by simp⟩
  · have e : k * E.z ≤ xs.length * E.z := Nat.mul_le_mul_right _ hk
    refine .inr ⟨b, cs, h1, h2, ?_, ?_⟩
    · rw [List.length_take, Nat.min_eq_left hk, ← E.all_take, ← h3, List.take_take, Nat.min_eq_left e]
    · simp only [List.length_take, Nat.min_eq_left hk]; omega
theorem Sl.Is.nil : Sl.Is ⟨none, 0, 0⟩ E σ [] := ⟨rfl, by simp, .inl ⟨rfl, rfl, rfl⟩⟩
theorem Sl.Is.row {b : Nat} (hr : σ.row? b = some (E.all xs)) (hl : xs.length ≤ 1099511627776) : Sl.Is ⟨some b, 0, xs.length⟩ E σ xs :=
  ⟨rfl, hl, .inr ⟨b, _, rfl, hr, by rw [List.drop_zero, List.take_of_length_le (by rw [E.all_len]; exact Nat.le_refl _)], by rw [E.all_len]; simp⟩⟩
theorem Sl.Is.new (hl : xs.length ≤ 1099511627776) : Sl.Is ⟨some σ.length, 0, xs.length⟩ E (σ ++ [.row (E.all xs) .rw]) xs :=
  .row (row?_of (get_push ..) (by simp)) hl
end

/-! ### Slices that a function owns -/
/-- .. and it is a whole row, that can be written; or nil. -/
inductive Sl.Own (s : Sl) (E : El α) (σ : Heap) (xs : List α) : Prop where
  | nil (hb : s.b = none) (ho : s.o = 0) (hn : s.n = 0) (hx : xs = [])
  | row (b : Nat) (hb : s.b = some b) (ho : s.o = 0) (hn : s.n = xs.length) (hr : σ[b]? = some (.row (E.all xs) .rw))
section
variable {s : Sl} {E : El α} {σ σ' : Heap} {xs ys : List α}
theorem Sl.Own.is (h : s.Own E σ xs) (hl : xs.length ≤ 1099511627776) : s.Is E σ xs := by
  cases h with
  | nil hb ho hn hx => subst hx; exact ⟨hn, hl, .inl ⟨hb, ho, rfl⟩⟩
  | row b hb ho hn hr =>
    refine ⟨hn, hl, .inr ⟨b, _, hb, row?_of hr (by simp), ?_, ?_⟩⟩
    · rw [ho, List.drop_zero, List.take_of_length_le (by rw [E.all_len]; exact Nat.le_refl _)]
    · rw [ho, E.all_len]; simp
theorem Sl.Own.len (h : s.Own E σ xs) : s.n = xs.length := by
  cases h with
  | nil hb ho hn hx => subst hx; exact hn
  | row b hb ho hn hr => exact hn
theorem Sl.Own.new : Sl.Own ⟨some σ.length, 0, xs.length⟩ E (σ ++ [.row (E.all xs) .rw]) xs := .row σ.length rfl rfl rfl (get_push ..)
theorem Sl.Own.pre (h : s.Own E σ xs) (hp : σ <+: σ') : s.Own E σ' xs := by
  cases h with
  | nil hb ho hn hx => exact .nil hb ho hn hx
  | row b hb ho hn hr => exact .row b hb ho hn (by rw [get_pre hp (List.getElem?_eq_some_iff.1 hr).1]; exact hr)

/-- What an append leaves of memory: all blocks but the slice's own as they were. -/
structure Kept (s : Sl) (σ σ' : Heap) : Prop where
  len : σ.length ≤ σ'.length
  at_ : ∀ b, b < σ.length → s.b ≠ some b → σ'[b]? = σ[b]?

theorem append_own (h : s.Own E σ xs) {bytes : Nat} {vs : List AVal} {k : Nat} (hv : vs = E.all ys) (hk : k = ys.length) (hb1 : (xs.length + ys.length) * bytes ≤ 70368744177664) (hb2 : xs.length + ys.length ≤ 70368744177664) :
    ∃ q σ', σ.append s.b s.o s.n E.z bytes vs k = some (q, σ') ∧ Sl.Own ⟨q.1, q.2.1, q.2.2⟩ E σ' (xs ++ ys) ∧ Kept s σ σ' ∧ (∀ b, q.1 = some b → s.b = some b ∨ σ.length ≤ b) := by
  subst hv; subst hk
  unfold Heap.append
  split
  · rename_i h0
    obtain rfl := List.eq_nil_of_length_eq_zero h0
    refine ⟨_, _, rfl, ?_, ⟨Nat.le_refl _, fun _ _ _ => rfl⟩, fun b hb => .inl hb⟩
    rw [List.append_nil]
    exact h
  · rw [if_pos ⟨by rw [h.len]; exact hb1, by rw [h.len]; exact hb2, E.all_len ys⟩]
    cases h with
    | nil hb ho hn hx =>
      subst hx
      rw [hb]
      refine ⟨_, _, rfl, ?_, ⟨by simp, fun b hb' _ => List.getElem?_append_left hb'⟩, fun b hb' => .inr (by injection hb' with hb'; omega)⟩
      exact .row _ rfl rfl (by simp) (get_push ..)
    | row b hb ho hn hr =>
      rw [hb]
      simp only [hr]
      rw [if_pos (by rw [ho, hn, E.all_len]; omega)]
      have hl := (List.getElem?_eq_some_iff.1 hr).1
      refine ⟨_, _, rfl, ?_, ⟨by simp, fun b' hb' hne => ?_⟩, fun b' hb' => .inr (by injection hb' with hb'; omega)⟩
      · refine .row σ.length rfl rfl (by simp [hn]) ?_
        rw [ho, List.drop_zero, List.take_of_length_le (by rw [hn, E.all_len]; exact Nat.le_refl _), E.all_append]
        have e := get_push (σ.set b (.row [] .dead)) (.row (E.all xs ++ E.all ys) .rw)
        rw [List.length_set] at e
        exact e
      · rw [List.getElem?_append_left (by simp; exact hb'), List.getElem?_set_ne]
        intro e
        exact hne (e ▸ hb)
/-- An element of an owned slice is written (or a part of it). -/
theorem store_own (h : s.Own E σ xs) {b : Nat} (hb : s.b = some b) {o : Nat} {vs : List AVal} (hy : overwrite (E.all xs) o vs = E.all ys) (hl : ys.length = xs.length) (ho : o + vs.length ≤ xs.length * E.z) :
    ∃ σ', σ.store b o vs = some σ' ∧ s.Own E σ' ys ∧ σ'.length = σ.length ∧ ∀ b', b' ≠ b → σ'[b']? = σ[b']? := by
  cases h with
  | nil hb' _ _ _ => rw [hb] at hb'; cases hb'
  | row b0 hb' ho' hn hr =>
    rw [hb] at hb'
    injection hb' with hb'
    subst hb'
    unfold Heap.store
    simp only [hr]
    rw [if_pos (by rw [E.all_len]; exact ho)]
    have hlt := (List.getElem?_eq_some_iff.1 hr).1
    refine ⟨_, rfl, .row b hb ho' (by rw [hn, hl]) ?_, by simp, fun b' hne => ?_⟩
    · rw [hy]
      simp [hlt]
    · exact List.getElem?_set_ne (Ne.symm hne)
theorem Sl.Is.kept {t : Sl} {β : Type} {F : El β} {zs : List β} (ht : t.Is F σ zs) (hk : Kept s σ σ') (hne : ∀ b, s.b = some b → t.b ≠ some b) : t.Is F σ' zs :=
  ht.of_row fun b cs hb hr => by
    rw [row?_congr (hk.at_ b (row?_lt hr) fun h => hne b h hb), hr]
theorem overwrite_append : ∀ (vs : List AVal) (a b c : List AVal), vs.length = b.length → overwrite (a ++ b ++ c) a.length vs = a ++ vs ++ c
  | [], a, b, c, h => by
    simp at h
    obtain rfl := List.eq_nil_of_length_eq_zero h.symm
    simp [overwrite]
  | v :: vs, a, [], c, h => by simp at h
  | v :: vs, a, y :: ys, c, h => by
    rw [overwrite]
    have e : (a ++ (y :: ys) ++ c).set a.length v = (a ++ [v]) ++ ys ++ c := by simp
    rw [e, show a.length + 1 = (a ++ [v]).length by simp, overwrite_append vs (a ++ [v]) ys c (by simpa using h)]
    simp
theorem El.all_set (E : El α) (xs : List α) {i : Nat} {x : α} (hi : xs[i]? = some x) (y : α) (a b c : List AVal) (hx : E.en x = a ++ b ++ c) {vs : List AVal} (hv : vs.length = b.length) (hy : E.en y = a ++ vs ++ c) {j : Nat} (hj : a.length = j) :
    overwrite (E.all xs) (i * E.z + j) vs = E.all (xs.set i y) := by
  have hlt := (List.getElem?_eq_some_iff.1 hi).1
  have e1 : xs = xs.take i ++ x :: xs.drop (i + 1) := by
    have h := (List.getElem?_eq_some_iff.1 hi).2
    rw [← h, List.getElem_cons_drop, List.take_append_drop]
  have e2 : xs.set i y = xs.take i ++ y :: xs.drop (i + 1) := by
    rw [List.set_eq_take_append_cons_drop, if_pos hlt]
  rw [e2]
  conv => lhs; rw [e1]
  rw [E.all_append, E.all_append, E.all_cons, E.all_cons, hx, hy]
  have hl : (E.all (xs.take i)).length = i * E.z := by rw [E.all_len, List.length_take, Nat.min_eq_left (by omega)]
  have := overwrite_append vs (E.all (xs.take i) ++ a) b (c ++ E.all (xs.drop (i + 1))) hv
  rw [List.length_append, hl, hj] at this
  simpa only [List.append_assoc] using this
end

/-! ### New lists -/
/-- A list that a call made: nil, or a row of its own. -/
def fresh (E : El α) (σ : Heap) (nil : Bool) (ys : List α) : Sl × Heap := bif nil then (⟨none, 0, 0⟩, σ) else (⟨some σ.length, 0, ys.length⟩, σ ++ [.row (E.all ys) .rw])
theorem fresh_pre (E : El α) (σ : Heap) (nil : Bool) (ys : List α) : σ <+: (fresh E σ nil ys).2 := by
  cases nil with
  | true => exact List.prefix_rfl
  | false => exact pre_push ..
theorem fresh_own (E : El α) (σ : Heap) (nil : Bool) (ys : List α) (h : nil = true → ys = []) : (fresh E σ nil ys).1.Own E (fresh E σ nil ys).2 ys := by
  cases nil with
  | true => exact .nil rfl rfl rfl (h rfl)
  | false => exact Sl.Own.new
theorem fresh_n (E : El α) (σ : Heap) (nil : Bool) (ys : List α) (h : nil = true → ys = []) : (fresh E σ nil ys).1.n = ys.length := (fresh_own E σ nil ys h).len
theorem fresh_new (E : El α) (σ : Heap) (nil : Bool) (ys : List α) : ∀ c, (fresh E σ nil ys).1.b = some c → σ.length ≤ c := by
  intro c h
  cases nil with
  | true => cases h
  | false => injection h with h; omega
theorem fresh_frz (E : El α) (σ : Heap) (nil : Bool) (ys : List α) : (fresh E σ.frz nil ys).1 = (fresh E σ nil ys).1 ∧ σ.back (fresh E σ.frz nil ys).2 = (fresh E σ nil ys).2 := by
  cases nil with
  | true => exact ⟨rfl, Heap.back_frz σ⟩
  | false => exact ⟨by simp [fresh, len_frz], back_frz_append ..⟩
theorem call_fresh {P : Program} {T : Tab} {f : FuncId} {args : List AVal} {σ σ1 : Heap} {q : Sl} {E : El α} {z : Nat} {ys : List α} (h : CallOK P T f args σ (.slice q.b q.o q.n z) σ1) (ho : q.Own E σ1 ys)
    (hk : ∀ b, b < σ.length → σ1[b]? = σ[b]?) (hc : ∀ c, q.b = some c → σ.length ≤ c) {nil : Bool} (hn : nil = q.b.isNone) : CallOK P T f args σ (.slice (fresh E σ nil ys).1.b (fresh E σ nil ys).1.o (fresh E σ nil ys).1.n z) (fresh E σ nil ys).2 := by
  cases ho with
  | nil hb ho' hn' hx =>
    rw [hb] at hn h
    subst hn
    rw [ho', hn'] at h
    exact call_gc0 h hk trivial
  | row b hb ho' hn' hr =>
    rw [hb] at hn h
    subst hn
    rw [ho', hn'] at h
    exact call_gc1 h hk (hc b hb) hr (E.all_flat ys) (by simp [fresh, AVal.ren]) (by simp [fresh, AVal.refs])

/-! ### Contracts told by what is so -/
/-- What a call does, where P tells one thing alone. -/
noncomputable def wOf {γ β : Type} (P : γ → Prop) (f : γ → β × Heap) : Option (β × Heap) :=
  open Classical in if h : ∃ x, P x then some (f (Classical.choose h)) else none
theorem wOf_eq {γ β : Type} {P : γ → Prop} {f : γ → β × Heap} {x : γ} (hx : P x) (hu : ∀ y, P y → f y = f x) : wOf P f = some (f x) := by
  have h : ∃ x, P x := ⟨x, hx⟩
  unfold wOf
  rw [dif_pos h, hu _ (Classical.choose_spec h)]
theorem wOf_some {γ β : Type} {P : γ → Prop} {f : γ → β × Heap} {r : β × Heap} (h : wOf P f = some r) : ∃ x, P x ∧ f x = r := by
  unfold wOf at h
  split at h
  · rename_i hx
    injection h with h
    exact ⟨_, Classical.choose_spec hx, h⟩
  · cases h
/-- .. and where it is for a condition. -/
noncomputable def wIf {β : Type} (P : Prop) (r : β × Heap) : Option (β × Heap) := open Classical in if P then some r else none
theorem wIf_eq {β : Type} {P : Prop} {r : β × Heap} (h : P) : wIf P r = some r := by unfold wIf; rw [if_pos h]
theorem wIf_some {β : Type} {P : Prop} {r q : β × Heap} (h : wIf P r = some q) : P ∧ r = q := by
  unfold wIf at h
  split at h
  · rename_i hp; injection h with h; exact ⟨hp, h⟩
  · cases h

/-! ### Numbers -/
theorem wrap_i64_of {n : Int} (h1 : -9223372036854775808 ≤ n) (h2 : n ≤ 9223372036854775807) : IntKind.i64.wrap n = n := by
  rw [IntKind.wrap_i64]; omega
theorem wrap_i64_nat (k : Nat) (h : k ≤ 9223372036854775807) : IntKind.i64.wrap (k : Int) = (k : Int) := wrap_i64_of (by omega) (by omega)
theorem wrap_i64_succ (k : Nat) (h : k < 9223372036854775807) : IntKind.i64.wrap ((k : Int) + 1) = ((k + 1 : Nat) : Int) := by
  rw [wrap_i64_of (by omega) (by omega)]; simp
end Go.Abs
