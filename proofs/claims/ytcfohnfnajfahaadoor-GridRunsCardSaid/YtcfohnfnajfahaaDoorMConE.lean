/-
A grid in memory: its head, its lines, whose they are.
A grid in memory: what is written.
A grid in memory: a line is another one, a line comes behind.
Contracts of the grid: what only reads it: there, some, bring, At, Text.
Contract of the grid's Text.
Contracts of the grid: New, Copy.
A grid in memory: cells of a line are written; the line is mended.
Contracts of the grid: Put, Clear.
Contracts of the grid: Clear, Open, Shut.
Contracts of the grid: Open, Shut.
-/
import Derived.Test.YtcfohnfnajfahaaDoorEqA4
import Derived.Test.YtcfohnfnajfahaaDoorMConC
import Derived.Test.YtcfohnfnajfahaaDoorMConD
namespace Go.Abs.TA
open Go Go.Abs Go.Proofs

def eSl : El Sl := ⟨1, fun q => [.slice q.b q.o q.n 6], fun _ => rfl, fun a b h => by
  cases a; cases b
  simp at h
  obtain ⟨rfl, rfl, rfl⟩ := h
  rfl⟩
/-! ### The head -/
def hd (w h : Nat) (q : Sl) : List AVal := [.int .i64 (w : Int), .int .i64 (h : Int), .slice q.b q.o q.n 1]
def Head (σ : Heap) (p w h : Nat) (q : Sl) : Prop := σ[p]? = some (.row (hd w h q) .rw)
section
variable {σ : Heap} {p w h : Nat} {q : Sl}
theorem Head.lt (hh : Head σ p w h q) : p < σ.length := (List.getElem?_eq_some_iff.1 hh).1
theorem Head.row (hh : Head σ p w h q) : σ.row? p = some (hd w h q) := row?_of hh (by simp)
theorem Head.c0 (hh : Head σ p w h q) : int? (σ.cell? p 0) .i64 = some (w : Int) := by
  unfold Heap.cell?
  rw [hh.row]
  rfl
theorem Head.c1 (hh : Head σ p w h q) : int? (σ.cell? p (0 + 1)) .i64 = some (h : Int) := by
  unfold Heap.cell?
  rw [hh.row]
  rfl
theorem Head.c2 (hh : Head σ p w h q) : slice? (σ.cell? p (0 + 2)) 1 = some (q.b, q.o, q.n) := by
  unfold Heap.cell?
  rw [hh.row]
  rfl
theorem Head.uniq {w' h' : Nat} {q' : Sl} (hh : Head σ p w h q) (hh' : Head σ p w' h' q') : w = w' ∧ h = h' ∧ q = q' := by
  unfold Head at hh hh'
  rw [hh] at hh'
  simp [hd] at hh'
  obtain ⟨h1, h2, h3, h4, h5⟩ := hh'
  refine ⟨by omega, by omega, ?_⟩
  cases q; cases q'
  simp at h3 h4 h5
  rw [h3, h4, h5]
theorem Head.same {σ' : Heap} (hh : Head σ p w h q) (e : σ'[p]? = σ[p]?) : Head σ' p w h q := by
  unfold Head at *
  rw [e, hh]
/-- The list of lines is another one. -/
theorem Head.set_sl (hh : Head σ p w h q) (t : Sl) : σ.store p (0 + 2) [.slice t.b t.o t.n 1] = some (σ.set p (.row (hd w h t) .rw)) := by
  unfold Heap.store
  unfold Head at hh
  rw [hh]
  rfl
end
/-- .. that can be read. -/
def HeadR (σ : Heap) (p w h : Nat) (q : Sl) : Prop := σ.row? p = some (hd w h q)
section
variable {σ : Heap} {p w h : Nat} {q : Sl}
theorem HeadR.c0 (hh : HeadR σ p w h q) : int? (σ.cell? p 0) .i64 = some (w : Int) := by
  unfold Heap.cell?
  unfold HeadR at hh
  rw [hh]
  rfl
theorem HeadR.c1 (hh : HeadR σ p w h q) : int? (σ.cell? p (0 + 1)) .i64 = some (h : Int) := by
  unfold Heap.cell?
  unfold HeadR at hh
  rw [hh]
  rfl
theorem HeadR.c2 (hh : HeadR σ p w h q) : slice? (σ.cell? p (0 + 2)) 1 = some (q.b, q.o, q.n) := by
  unfold Heap.cell?
  unfold HeadR at hh
  rw [hh]
  rfl
theorem HeadR.uniq {w' h' : Nat} {q' : Sl} (hh : HeadR σ p w h q) (hh' : HeadR σ p w' h' q') : w = w' ∧ h = h' ∧ q = q' := by
  unfold HeadR at hh hh'
  rw [hh] at hh'
  simp [hd] at hh'
  obtain ⟨h1, h2, h3, h4, h5⟩ := hh'
  refine ⟨by omega, by omega, ?_⟩
  cases q; cases q'
  simp at h3 h4 h5
  rw [h3, h4, h5]
end
/-! ### Grids -/
/-- What tells a grid: where its list of lines is, the lines' slices, the width, the lines. -/
structure GD where
  q : Sl
  els : List Sl
  w : Nat
  ls : List (List api_Cell)
/-- Its blocks. -/
def GD.foot (d : GD) (p : Nat) : List (Option Nat) := some p :: d.q.b :: d.els.map (·.b)
/-- A grid that is told to have h lines, and has some. -/
structure GridP (σ : Heap) (p h : Nat) (d : GD) : Prop where
  head : Head σ p d.w h d.q
  own : d.q.Own eSl σ d.els
  len : d.els.length = d.ls.length
  line : ∀ (i : Nat) (e : Sl) (l : List api_Cell), d.els[i]? = some e → d.ls[i]? = some l → e.Own eCell σ l
  wide : ∀ l ∈ d.ls, l.length = d.w
  w1 : 1 ≤ d.w
  w2 : d.w ≤ 60
  nd : (d.foot p).Nodup
structure Grid (σ : Heap) (p : Nat) (d : GD) : Prop extends GridP σ p d.ls.length d where
  h1 : 1 ≤ d.ls.length
  h2 : d.ls.length ≤ 60
section
variable {σ σ' : Heap} {p h : Nat} {d d' : GD}
theorem GridP.get (g : GridP σ p h d) {i : Nat} {l : List api_Cell} (hl : d.ls[i]? = some l) : ∃ e, d.els[i]? = some e ∧ e.Own eCell σ l ∧ l.length = d.w := by
  have hi := (List.getElem?_eq_some_iff.1 hl).1
  have he : i < d.els.length := by rw [g.len]; exact hi
  refine ⟨d.els[i], List.getElem?_eq_getElem he, g.line i _ l (List.getElem?_eq_getElem he) hl, g.wide l (List.mem_of_getElem? hl)⟩
theorem GridP.el (g : GridP σ p h d) {i : Nat} {e : Sl} (he : d.els[i]? = some e) : ∃ l, d.ls[i]? = some l ∧ e.Own eCell σ l ∧ l.length = d.w := by
  have hi := (List.getElem?_eq_some_iff.1 he).1
  have hl : i < d.ls.length := by rw [← g.len]; exact hi
  exact ⟨d.ls[i], List.getElem?_eq_getElem hl, g.line i e _ he (List.getElem?_eq_getElem hl), g.wide _ (List.getElem_mem hl)⟩
theorem own_some {s : Sl} {l : List api_Cell} (h : s.Own eCell σ l) (hl : 1 ≤ l.length) : ∃ b, s.b = some b ∧ s.o = 0 ∧ s.n = l.length ∧ σ[b]? = some (.row (eCell.all l) .rw) := by
  cases h with
  | nil hb ho hn hx => subst hx; simp at hl
  | row b hb ho hn hr => exact ⟨b, hb, ho, hn, hr⟩
theorem Grid.uniq (g : Grid σ p d) (g' : Grid σ p d') : d = d' := by
  obtain ⟨e1, e2, e3⟩ := g.head.uniq g'.head
  have o2 := g'.own
  rw [← e3] at o2
  have e4 : d.els = d'.els := g.own.uniq (by decide) o2
  have e5 : d.ls = d'.ls := by
    apply List.ext_getElem?
    intro i
    cases hl : d.ls[i]? with
    | none =>
      rw [List.getElem?_eq_none]
      rw [List.getElem?_eq_none_iff] at hl
      omega
    | some l =>
      obtain ⟨e, he, ho, _⟩ := g.get hl
      rw [e4] at he
      obtain ⟨l', hl', ho', _⟩ := g'.el he
      rw [hl', ho.uniq (by decide) ho']
  cases d; cases d'
  simp at e1 e3 e4 e5
  subst e1; subst e3; subst e4; subst e5
  rfl
/-- A grid that can be read. -/
structure GridR (σ : Heap) (p : Nat) (d : GD) : Prop where
  head : HeadR σ p d.w d.ls.length d.q
  own : d.q.Is eSl σ d.els
  len : d.els.length = d.ls.length
  line : ∀ (i : Nat) (e : Sl) (l : List api_Cell), d.els[i]? = some e → d.ls[i]? = some l → e.Is eCell σ l
  wide : ∀ l ∈ d.ls, l.length = d.w
  w1 : 1 ≤ d.w
  w2 : d.w ≤ 60
  h1 : 1 ≤ d.ls.length
  h2 : d.ls.length ≤ 60
theorem Grid.r (g : Grid σ p d) : GridR σ p d :=
  ⟨g.head.row, g.own.is (by have := g.len; have := g.h2; omega), g.len, fun i e l h1 h2 => (g.line i e l h1 h2).is (by have := g.wide l (List.mem_of_getElem? h2); have := g.w2; omega), g.wide, g.w1, g.w2, g.h1, g.h2⟩
theorem GridR.frz (g : GridR σ p d) : GridR σ.frz p d :=
  ⟨by unfold HeadR; rw [Heap.row?_frz]; exact g.head, g.own.frz, g.len, fun i e l h1 h2 => (g.line i e l h1 h2).frz, g.wide, g.w1, g.w2, g.h1, g.h2⟩
theorem GridR.pre (g : GridR σ p d) (hp : σ <+: σ') : GridR σ' p d :=
  ⟨row?_pre hp g.head, g.own.pre hp, g.len, fun i e l h1 h2 => (g.line i e l h1 h2).pre hp, g.wide, g.w1, g.w2, g.h1, g.h2⟩
theorem GridR.get (g : GridR σ p d) {i : Nat} {l : List api_Cell} (hl : d.ls[i]? = some l) : ∃ e, d.els[i]? = some e ∧ e.Is eCell σ l ∧ l.length = d.w := by
  have hi := (List.getElem?_eq_some_iff.1 hl).1
  have he : i < d.els.length := by rw [g.len]; exact hi
  exact ⟨d.els[i], List.getElem?_eq_getElem he, g.line i _ l (List.getElem?_eq_getElem he) hl, g.wide l (List.mem_of_getElem? hl)⟩
theorem GridR.uniq (g : GridR σ p d) (g' : GridR σ p d') : d = d' := by
  obtain ⟨e1, e2, e3⟩ := g.head.uniq g'.head
  have o2 := g'.own
  rw [← e3] at o2
  have e4 : d.els = d'.els := g.own.uniq (by decide) o2
  have e5 : d.ls = d'.ls := by
    apply List.ext_getElem?
    intro i
    cases hl : d.ls[i]? with
    | none =>
      rw [List.getElem?_eq_none]
      rw [List.getElem?_eq_none_iff] at hl
      omega
    | some l =>
      obtain ⟨e, he, ho, _⟩ := g.get hl
      rw [e4] at he
      have hi := (List.getElem?_eq_some_iff.1 hl).1
      have hl' : i < d'.ls.length := by omega
      have ho' := g'.line i e _ he (List.getElem?_eq_getElem hl')
      rw [List.getElem?_eq_getElem hl', ho.uniq (by decide) ho']
  cases d; cases d'
  simp at e1 e3 e4 e5
  subst e1; subst e3; subst e4; subst e5
  rfl
/-- The slice of a line is read. -/
theorem GridR.line_at (g : GridR σ p d) {i : Nat} {l : List api_Cell} (hl : d.ls[i]? = some l) : ∃ b e, d.q.b = some b ∧ d.els[i]? = some e ∧ slice? (σ.cell? b (d.q.o + i * 1)) 6 = some (e.b, e.o, e.n) ∧ e.Is eCell σ l ∧ l.length = d.w ∧ i < d.q.n ∧ d.q.n = d.ls.length := by
  obtain ⟨e, he, ho, hlen⟩ := g.get hl
  obtain ⟨b, hb, hc⟩ := g.own.cell he
  have hi := (List.getElem?_eq_some_iff.1 hl).1
  have hqn : d.q.n = d.ls.length := by rw [g.own.n, g.len]
  refine ⟨b, e, hb, he, ?_, ho, hlen, by omega, hqn⟩
  have hc0 := hc 0 (by decide)
  have hc0 : σ.cell? b (d.q.o + i * 1) = some (.slice e.b e.o e.n 6) := hc0
  rw [hc0]
  unfold slice?
  cases e with
  | mk eb eo en => cases eb <;> rfl
/-- All blocks of a list are there. -/
theorem GridP.foot_lt (g : GridP σ p h d) {b : Nat} (hb : some b ∈ d.foot p) : b < σ.length := by
  simp only [GD.foot, List.mem_cons, List.mem_map] at hb
  rcases hb with hb | hb | ⟨e, he, hb⟩
  · injection hb with hb
    rw [hb]; exact g.head.lt
  · cases ho : g.own with
    | nil h1 _ _ _ => rw [h1] at hb; cases hb
    | row c h1 _ _ h4 =>
      rw [h1] at hb
      injection hb with hb
      rw [hb]
      exact (List.getElem?_eq_some_iff.1 h4).1
  · obtain ⟨i, hi⟩ := List.mem_iff_getElem?.1 he
    obtain ⟨l, _, ho, hlen⟩ := g.el hi
    have := g.w1
    obtain ⟨c, hc, _, _, hr⟩ := own_some ho (by omega)
    rw [hc] at hb
    injection hb with hb
    rw [← hb]
    exact (List.getElem?_eq_some_iff.1 hr).1
theorem own_same {α : Type} {E : El α} {s : Sl} {xs : List α} (h : s.Own E σ xs) (e : ∀ b, s.b = some b → σ'[b]? = σ[b]?) : s.Own E σ' xs := by
  cases h with
  | nil hb ho hn hx => exact .nil hb ho hn hx
  | row b hb ho hn hr => exact .row b hb ho hn (by rw [e b hb]; exact hr)
/-- Where its blocks are as they were, it is so. -/
theorem GridP.same (g : GridP σ p h d) (e : ∀ b, some b ∈ d.foot p → σ'[b]? = σ[b]?) : GridP σ' p h d where
  head := g.head.same (e p (by simp [GD.foot]))
  own := own_same g.own fun b hb => e b (by simp [GD.foot, hb])
  len := g.len
  line := fun i s l h1 h2 => own_same (g.line i s l h1 h2) fun b hb => e b (by
    simp only [GD.foot, List.mem_cons, List.mem_map]
    exact .inr (.inr ⟨s, List.mem_of_getElem? h1, hb⟩))
  wide := g.wide
  w1 := g.w1
  w2 := g.w2
  nd := g.nd
theorem Grid.same (g : Grid σ p d) (e : ∀ b, some b ∈ d.foot p → σ'[b]? = σ[b]?) : Grid σ' p d := ⟨g.toGridP.same e, g.h1, g.h2⟩
theorem GridP.pre (g : GridP σ p h d) (hp : σ <+: σ') : GridP σ' p h d := g.same fun _ hb => get_pre hp (g.foot_lt hb)
theorem Grid.pre (g : Grid σ p d) (hp : σ <+: σ') : Grid σ' p d := g.same fun _ hb => get_pre hp (g.foot_lt hb)
/-- What is done to a grid: no other block turns, those that it has are its own, or new. -/
structure Turn (σ : Heap) (p : Nat) (d : GD) (σ' : Heap) (d' : GD) : Prop where
  len : σ.length ≤ σ'.length
  at_ : ∀ b, b < σ.length → some b ∉ d.foot p → σ'[b]? = σ[b]?
  foot : ∀ b, some b ∈ d'.foot p → some b ∈ d.foot p ∨ σ.length ≤ b
theorem Turn.refl : Turn σ p d σ d := ⟨Nat.le_refl _, fun _ _ _ => rfl, fun _ h => .inl h⟩
theorem Turn.trans {σ'' : Heap} {d'' : GD} (h : Turn σ p d σ' d') (k : Turn σ' p d' σ'' d'') : Turn σ p d σ'' d'' where
  len := Nat.le_trans h.len k.len
  at_ := fun b hb hn => by
    have := h.len
    rw [k.at_ b (by omega) (fun hm => by
      rcases h.foot b hm with h1 | h1
      · exact hn h1
      · omega), h.at_ b hb hn]
  foot := fun b hm => by
    have := h.len
    rcases k.foot b hm with h1 | h1
    · exact h.foot b h1
    · exact .inr (by omega)
theorem Turn.pre {τ : Heap} (h : Turn σ p d σ' d') (hp : τ <+: σ) (hf : ∀ b, some b ∈ d.foot p → τ.length ≤ b) : τ <+: σ' := by
  have := hp.length_le
  have := h.len
  refine pre_of_get (by omega) fun b hb => ?_
  rw [h.at_ b (by omega) (fun hm => by have := hf b hm; omega)]
  exact get_pre hp hb
end
end Go.Abs.TA
namespace Go.Abs.TA
open Go Go.Abs Go.Proofs
section
variable {τ σ σ' : Heap} {p h : Nat} {d d' : GD}
theorem nodup_get {α : Type} {l : List α} (h : l.Nodup) {i j : Nat} {x : α} (hi : l[i]? = some x) (hj : l[j]? = some x) : i = j := by
  obtain ⟨h1, e1⟩ := List.getElem?_eq_some_iff.1 hi
  obtain ⟨h2, e2⟩ := List.getElem?_eq_some_iff.1 hj
  have hp := List.pairwise_iff_getElem.1 h
  rcases Nat.lt_trichotomy i j with hlt | heq | hlt
  · exact absurd (e1.trans e2.symm) (hp i j h1 h2 hlt)
  · exact heq
  · exact absurd (e2.trans e1.symm) (hp j i h2 h1 hlt)
theorem GridP.nd_els (g : GridP σ p h d) : (d.els.map (·.b)).Nodup := (List.nodup_cons.1 (List.nodup_cons.1 g.nd).2).2
theorem GridP.q_el (g : GridP σ p h d) {e : Sl} (he : e ∈ d.els) : e.b ≠ d.q.b := fun h' =>
  (List.nodup_cons.1 (List.nodup_cons.1 g.nd).2).1 (List.mem_map.2 ⟨e, he, h'⟩)
theorem GridP.p_el (g : GridP σ p h d) {e : Sl} (he : e ∈ d.els) : e.b ≠ some p := fun h' =>
  (List.nodup_cons.1 g.nd).1 (List.mem_cons_of_mem _ (List.mem_map.2 ⟨e, he, h'⟩))
theorem GridP.p_q (g : GridP σ p h d) : d.q.b ≠ some p := fun h' =>
  (List.nodup_cons.1 g.nd).1 (by rw [h']; exact List.mem_cons_self)
/-- The list of lines is written anew. -/
theorem GridP.relist (g : GridP σ p h d) {els' : List Sl} {ls' : List (List api_Cell)} (ho : d.q.Own eSl σ' els') (hs : ∀ b, d.q.b ≠ some b → σ'[b]? = σ[b]?) (hlen : els'.length = ls'.length)
    (hline : ∀ (i : Nat) (e : Sl) (l : List api_Cell), els'[i]? = some e → ls'[i]? = some l → e.Own eCell σ l ∧ l.length = d.w) (hnd : (GD.foot ⟨d.q, els', d.w, ls'⟩ p).Nodup) : GridP σ' p h ⟨d.q, els', d.w, ls'⟩ where
  head := g.head.same (hs p g.p_q)
  own := ho
  len := hlen
  line := fun i e l h1 h2 => own_same (hline i e l h1 h2).1 fun b hb => hs b fun hq =>
    (List.nodup_cons.1 (List.nodup_cons.1 hnd).2).1 (List.mem_map.2 ⟨e, List.mem_of_getElem? h1, by rw [hb]; exact hq.symm⟩)
  wide := fun l hl => by
    obtain ⟨i, hi⟩ := List.mem_iff_getElem?.1 hl
    have := (List.getElem?_eq_some_iff.1 hi).1
    have he : i < els'.length := by simp only at this; omega
    exact (hline i _ l (List.getElem?_eq_getElem he) hi).2
  w1 := g.w1
  w2 := g.w2
  nd := hnd
/-- A line is written anew, where it is. -/
theorem GridP.reline (g : GridP σ p h d) {i : Nat} {e : Sl} {l' : List api_Cell} (he : d.els[i]? = some e) (ho : e.Own eCell σ' l') (hl : l'.length = d.w) (hs : ∀ b, e.b ≠ some b → σ'[b]? = σ[b]?) :
    GridP σ' p h ⟨d.q, d.els, d.w, d.ls.set i l'⟩ where
  head := g.head.same (hs p (g.p_el (List.mem_of_getElem? he)))
  own := own_same g.own fun b hb => hs b (by rw [← hb]; exact g.q_el (List.mem_of_getElem? he))
  len := by rw [g.len]; simp
  line := fun j f l h1 h2 => by
    simp only at h1 h2
    rw [List.getElem?_set] at h2
    split at h2
    · rename_i hij
      subst hij
      split at h2
      · injection h2 with h2
        subst h2
        rw [he] at h1
        injection h1 with h1
        subst h1
        exact ho
      · cases h2
    · rename_i hij
      refine own_same (g.line j f l h1 h2) fun b hb => hs b fun hb' => hij ?_
      exact nodup_get g.nd_els (x := some b) (by rw [List.getElem?_map, he]; simp [hb']) (by rw [List.getElem?_map, h1]; simp [hb])
  wide := fun l hm => by
    rcases List.mem_or_eq_of_mem_set hm with h1 | h1
    · exact g.wide l h1
    · rw [h1]; exact hl
  w1 := g.w1
  w2 := g.w2
  nd := g.nd
end
end Go.Abs.TA
namespace Go.Abs.TA
open Go Go.Abs Go.Proofs
theorem nodup_set_new {α : Type} {l : List α} {x : α} (h : l.Nodup) (hx : x ∉ l) (i : Nat) : (l.set i x).Nodup := by
  refine List.pairwise_iff_getElem.2 fun a b ha hb hab e => ?_
  rw [List.getElem_set, List.getElem_set] at e
  simp only [List.length_set] at ha hb
  split at e
  · rename_i h1
    split at e
    · omega
    · exact hx (by rw [e]; exact List.getElem_mem _)
  · split at e
    · exact hx (by rw [← e]; exact List.getElem_mem _)
    · exact List.pairwise_iff_getElem.1 h a b ha hb hab e
section
variable {τ σ σ' : Heap} {p h : Nat} {d d' : GD}
theorem own_b {α : Type} {E : El α} {s : Sl} {xs : List α} (ho : s.Own E σ xs) (hx : xs ≠ []) : ∃ b, s.b = some b ∧ s.o = 0 ∧ b < σ.length := by
  cases ho with
  | nil _ _ _ h => exact absurd h hx
  | row b hb ho' hn hr => exact ⟨b, hb, ho', (List.getElem?_eq_some_iff.1 hr).1⟩
/-- A line is another one. -/
theorem GridP.set_line (g : GridP τ p h d) (hp : τ <+: σ) {e' : Sl} {l' : List api_Cell} (ho : e'.Own eCell σ l') (hl : l'.length = d.w) (hc : ∀ c, e'.b = some c → τ.length ≤ c) {i : Nat} (hi : i < d.els.length) :
    ∃ b σ', d.q.b = some b ∧ σ.store b (d.q.o + i * 1) [.slice e'.b e'.o e'.n 6] = some σ' ∧ GridP σ' p h ⟨d.q, d.els.set i e', d.w, d.ls.set i l'⟩ ∧ Turn τ p d σ' ⟨d.q, d.els.set i e', d.w, d.ls.set i l'⟩ := by
  have gs := g.pre hp
  have hne : d.els ≠ [] := by intro e; rw [e] at hi; simp at hi
  obtain ⟨b, hb, hq0, hbl⟩ := own_b gs.own hne
  have h1 := g.w1
  obtain ⟨c, hec, _, _, hcr⟩ := own_some ho (by omega)
  have hcn : some c ∉ d.foot p := fun hm => by have := g.foot_lt hm; have := hc c hec; omega
  obtain ⟨σ', k1, k2, k3, k4⟩ := store_own (E := eSl) gs.own hb (o := i * 1) (vs := [.slice e'.b e'.o e'.n 6]) (ys := d.els.set i e')
    (eSl.all_set d.els (List.getElem?_eq_getElem hi) e' [] (eSl.en d.els[i]) [] (by simp) (by simp [eSl]) (by simp [eSl]) (j := 0) rfl) (by simp) (by simp [eSl]; omega)
  have hb0 : b < τ.length := g.foot_lt (by simp [GD.foot, hb])
  have hw := g.w1
  refine ⟨b, σ', hb, by rw [hq0, Nat.zero_add]; exact k1, ?_, ?_⟩
  · refine gs.relist k2 (fun b' hb' => k4 b' (fun e => hb' (by rw [hb, e]))) (by simp; exact g.len) (fun j e l h1 h2 => ?_) ?_
    · rw [List.getElem?_set] at h1 h2
      by_cases hij : i = j
      · subst hij
        rw [if_pos rfl, if_pos hi] at h1
        rw [if_pos rfl, if_pos (by rw [← g.len]; exact hi)] at h2
        injection h1 with h1
        injection h2 with h2
        subst h1; subst h2
        exact ⟨ho, hl⟩
      · rw [if_neg hij] at h1 h2
        obtain ⟨l2, hl2, ho2, hlen2⟩ := gs.el h1
        rw [h2] at hl2
        injection hl2 with hl2
        subst hl2
        exact ⟨ho2, hlen2⟩
    · have := nodup_set_new g.nd hcn (i + 2)
      have e : GD.foot ⟨d.q, d.els.set i e', d.w, d.ls.set i l'⟩ p = (d.foot p).set (i + 2) (some c) := by
        simp [GD.foot, List.map_set, hec]
      rw [show (GD.foot ⟨d.q, d.els.set i e', d.w, d.ls.set i l'⟩ p) = _ from e]
      exact this
  · have hpl := hp.length_le
    refine ⟨by omega, fun x hx hn => ?_, fun x hx => ?_⟩
    · rw [k4 x (fun e => hn (by simp [GD.foot, hb, e])), get_pre hp hx]
    · have e : GD.foot ⟨d.q, d.els.set i e', d.w, d.ls.set i l'⟩ p = (d.foot p).set (i + 2) (some c) := by
        simp [GD.foot, List.map_set, hec]
      rw [e] at hx
      rcases List.mem_or_eq_of_mem_set hx with h2 | h2
      · exact .inl h2
      · injection h2 with h2
        rw [h2]
        exact .inr (hc c hec)
/-- A line comes behind. -/
theorem GridP.push (g : GridP τ p h d) (hp : τ <+: σ) {e' : Sl} {l' : List api_Cell} (ho : e'.Own eCell σ l') (hl : l'.length = d.w) (hc : ∀ c, e'.b = some c → τ.length ≤ c) (hn : d.els.length ≤ 1000) :
    ∃ q' σ1 σ2, σ.append d.q.b d.q.o d.q.n 1 24 [.slice e'.b e'.o e'.n 6] 1 = some (q', σ1) ∧ σ1.store p 2 [.slice q'.1 q'.2.1 q'.2.2 1] = some σ2 ∧
      GridP σ2 p h ⟨⟨q'.1, q'.2.1, q'.2.2⟩, d.els ++ [e'], d.w, d.ls ++ [l']⟩ ∧ Turn τ p d σ2 ⟨⟨q'.1, q'.2.1, q'.2.2⟩, d.els ++ [e'], d.w, d.ls ++ [l']⟩ := by
  have gs := g.pre hp
  have hpl := hp.length_le
  have h1 := g.w1
  obtain ⟨c, hec, _, _, hcr⟩ := own_some ho (by omega)
  have hcl := (List.getElem?_eq_some_iff.1 hcr).1
  have hcτ := hc c hec
  have hcn : some c ∉ d.foot p := fun hm => by have := g.foot_lt hm; omega
  obtain ⟨q', σ1, k1, k2, k3, k4⟩ := append_own (E := eSl) gs.own (ys := [e']) (bytes := 24) (vs := [.slice e'.b e'.o e'.n 6]) (k := 1) (by simp [eSl, El.all]) rfl (by simp; omega) (by simp; omega)
  have hqn := append_new k1 (by decide)
  have hpτ := g.head.lt
  have hh1 : Head σ1 p d.w h d.q := gs.head.same (k3.at_ p gs.head.lt gs.p_q)
  have hst := hh1.set_sl ⟨q'.1, q'.2.1, q'.2.2⟩
  obtain ⟨b', hb', _, _⟩ := own_b k2 (by simp)
  have hb'' : q'.1 = some b' := hb'
  have hbn := hqn b' hb''
  refine ⟨q', σ1, _, k1, hst, ?_, ?_⟩
  · refine ⟨?_, ?_, by simp [g.len], fun j e l h2 h3 => ?_, ?_, g.w1, g.w2, ?_⟩
    · unfold Head
      rw [List.getElem?_set_self hh1.lt]
    · refine own_same k2 fun b hb => List.getElem?_set_ne ?_
      rw [hb''] at hb
      injection hb with hb
      omega
    · have key : e.Own eCell σ l ∧ e.b ≠ d.q.b ∧ e.b ≠ some p := by
        simp only at h2 h3
        by_cases hj : j < d.els.length
        · rw [List.getElem?_append_left hj] at h2
          rw [List.getElem?_append_left (by rw [← g.len]; exact hj)] at h3
          exact ⟨gs.line j e l h2 h3, g.q_el (List.mem_of_getElem? h2), g.p_el (List.mem_of_getElem? h2)⟩
        · rw [List.getElem?_append_right (by omega)] at h2
          rw [List.getElem?_append_right (by rw [← g.len]; omega), ← g.len] at h3
          have hj0 : j - d.els.length = 0 := by
            have := (List.getElem?_eq_some_iff.1 h2).1
            simp at this
            omega
          rw [hj0] at h2 h3
          simp at h2 h3
          subst h2; subst h3
          refine ⟨ho, ?_, ?_⟩
          · rw [hec]
            intro e2
            exact hcn (by simp [GD.foot, ← e2])
          · rw [hec]
            intro e2
            injection e2 with e2
            omega
      obtain ⟨a1, a2, a3⟩ := key
      refine own_same a1 fun b hb => ?_
      have hbl : b < σ.length := by
        cases a1 with
        | nil z _ _ _ => rw [z] at hb; cases hb
        | row b2 z _ _ zr =>
          rw [z] at hb
          injection hb with hb
          subst hb
          exact (List.getElem?_eq_some_iff.1 zr).1
      rw [List.getElem?_set_ne (fun e2 => a3 (by rw [hb, e2]))]
      exact k3.at_ b hbl (fun e2 => a2 (by rw [hb, e2]))
    · intro l hm
      simp only [List.mem_append, List.mem_singleton] at hm
      rcases hm with hm | hm
      · exact g.wide l hm
      · rw [hm]; exact hl
    · have hnd := g.nd
      simp only [GD.foot, hb'', List.map_append, List.map_cons, List.map_nil, hec]
      have hlt : ∀ x, some x ∈ d.foot p → x < τ.length := fun x hx => g.foot_lt hx
      have e1 : some b' ∉ d.els.map (·.b) := fun hm => by have := hlt b' (by simp only [GD.foot]; exact List.mem_cons_of_mem _ (List.mem_cons_of_mem _ hm)); omega
      have e2 : some c ∉ d.els.map (·.b) := fun hm => hcn (by simp only [GD.foot]; exact List.mem_cons_of_mem _ (List.mem_cons_of_mem _ hm))
      have e3 : some p ∉ d.els.map (·.b) := fun hm => (List.nodup_cons.1 hnd).1 (List.mem_cons_of_mem _ hm)
      refine List.nodup_cons.2 ⟨?_, List.nodup_cons.2 ⟨?_, ?_⟩⟩
      · simp only [List.mem_cons, List.mem_append, Option.some.injEq, List.mem_nil_iff, or_false]
        rintro (h5 | h5 | h5)
        · omega
        · exact e3 h5
        · omega
      · simp only [List.mem_append, List.mem_cons, Option.some.injEq, List.mem_nil_iff, or_false]
        rintro (h5 | h5)
        · exact e1 h5
        · omega
      · refine List.nodup_append.2 ⟨g.nd_els, by simp, ?_⟩
        intro x hx y hy e5
        simp only [List.mem_cons, List.mem_nil_iff, or_false] at hy
        subst hy; subst e5
        exact e2 hx
  · refine ⟨by have := k3.len; simp; omega, fun x hx hn => ?_, fun x hx => ?_⟩
    · rw [List.getElem?_set_ne (fun e2 => hn (by simp [GD.foot, e2])), k3.at_ x (by omega) (fun e2 => hn (by simp [GD.foot, e2])), get_pre hp hx]
    · simp only [GD.foot, hb'', List.map_append, List.map_cons, List.map_nil, hec, List.mem_cons, List.mem_append, Option.some.injEq, List.mem_nil_iff, or_false] at hx
      rcases hx with h5 | h5 | h5 | h5
      · exact .inl (by simp [GD.foot, h5])
      · exact .inr (by omega)
      · exact .inl (by simp only [GD.foot]; exact List.mem_cons_of_mem _ (List.mem_cons_of_mem _ h5))
      · exact .inr (by omega)
end
end Go.Abs.TA
namespace Go.Abs.TA
open Go Go.Abs Go.Proofs

/-! there, some, bring -/
def thereB (x y : Int) (w h : Nat) : Bool := bif decide (x ≥ 0) then (bif decide (y ≥ 0) then (bif decide (x < (w : Int)) then decide (y < (h : Int)) else false) else false) else false
theorem thereB_iff {x y : Int} {w h : Nat} : thereB x y w h = true ↔ 0 ≤ x ∧ 0 ≤ y ∧ x < w ∧ y < h := by
  unfold thereB
  by_cases h1 : x ≥ 0 <;> by_cases h2 : y ≥ 0 <;> by_cases h3 : x < (w : Int) <;> by_cases h4 : y < (h : Int) <;> simp [h1, h2, h3, h4] <;> omega
noncomputable def w_grid_Grid_there (g : Pt) (x y : Int) (σ : Heap) : Option (Bool × Heap) := wOf (fun t : Nat × Nat × Nat × Sl => g = some (t.1, 0) ∧ HeadR σ t.1 t.2.1 t.2.2.1 t.2.2.2) fun t => (thereB x y t.2.1 t.2.2.1, σ)
theorem w_grid_Grid_there_eq {x y : Int} {σ : Heap} {p w h : Nat} {q : Sl} (hh : HeadR σ p w h q) : w_grid_Grid_there (some (p, 0)) x y σ = some (thereB x y w h, σ) :=
  wOf_eq (x := (p, w, h, q)) ⟨rfl, hh⟩ fun t ht => by
    obtain ⟨p', w', h', q'⟩ := t
    obtain ⟨e1, e2⟩ := ht
    injection e1 with e1
    injection e1 with e1
    subst e1
    obtain ⟨e3, e4, _⟩ := hh.uniq e2
    simp only [e3, e4]
theorem ok_grid_Grid_there : Ok_grid_Grid_there w_grid_Grid_there := fun g x y σ v σ' h => by
  obtain ⟨⟨p, w, hh, q⟩, ⟨rfl, hd⟩, e⟩ := wOf_some h
  injection e with e1 e2
  subst e1; subst e2
  refine call_ok ok known0_ok (L := 0) (n := 2) ((grid_Grid_there_eq 0 (some (p, 0)) x y σ _).trans ?_)
  simp only at hd
  simp only [Option.bind_some, hd.c0, hd.c1]
  unfold thereB
  cases decide (x ≥ 0)
  · rfl
  · cases decide (y ≥ 0)
    · rfl
    · simp only [cond_true]
      cases decide (x < (w : Int)) <;> rfl
def someR (top e n : Int) (h : Nat) : Int × Int × Int :=
  (within top 0 h, within e 0 h, within n 0 (if 0 > IntKind.i64.wrap (within e 0 h - within top 0 h) then 0 else IntKind.i64.wrap (within e 0 h - within top 0 h)))
noncomputable def w_grid_Grid_some (g : Pt) (top e n : Int) (σ : Heap) : Option ((Int × Int × Int) × Heap) := wOf (fun t : Nat × Nat × Nat × Sl => g = some (t.1, 0) ∧ HeadR σ t.1 t.2.1 t.2.2.1 t.2.2.2) fun t => (someR top e n t.2.2.1, σ)
theorem w_grid_Grid_some_eq {top e n : Int} {σ : Heap} {p w h : Nat} {q : Sl} (hh : HeadR σ p w h q) : w_grid_Grid_some (some (p, 0)) top e n σ = some (someR top e n h, σ) :=
  wOf_eq (x := (p, w, h, q)) ⟨rfl, hh⟩ fun t ht => by
    obtain ⟨p', w', h', q'⟩ := t
    obtain ⟨e1, e2⟩ := ht
    injection e1 with e1
    injection e1 with e1
    subst e1
    obtain ⟨e3, e4, _⟩ := hh.uniq e2
    simp only [e4]
theorem ok_grid_Grid_some : Ok_grid_Grid_some w_grid_Grid_some := fun g top e n σ v σ' h => by
  obtain ⟨⟨p, w, hh, q⟩, ⟨rfl, hd⟩, e⟩ := wOf_some h
  injection e with e1 e2
  subst e1; subst e2
  refine call_ok ok known0_ok (L := 0) (n := 2) ((grid_Grid_some_eq 0 (some (p, 0)) top _ n σ _).trans ?_)
  simp only at hd
  simp only [Option.bind_some, hd.c1]
  rfl
/-- .. as numbers of lines. -/
theorem within_nat (n : Int) (h : Nat) : ∃ k : Nat, k ≤ h ∧ within n 0 (h : Int) = (k : Int) := by
  refine ⟨(within n 0 (h : Int)).toNat, ?_, ?_⟩
  · unfold within
    split <;> split <;> omega
  · unfold within
    split <;> split <;> omega
theorem someR_nat (top e n : Int) {h : Nat} (hh : h ≤ 1000) : ∃ t k m : Nat, t ≤ h ∧ k ≤ h ∧ m ≤ k - t ∧ within top 0 h = (t : Int) ∧ within e 0 h = (k : Int) ∧ within n 0 ((k - t : Nat) : Int) = (m : Int) ∧ someR top e n h = ((t : Int), (k : Int), (m : Int)) := by
  obtain ⟨t, h1, e1⟩ := within_nat top h
  obtain ⟨k, h2, e2⟩ := within_nat e h
  obtain ⟨m, h3, e3⟩ := within_nat n (k - t)
  refine ⟨t, k, m, h1, h2, h3, e1, e2, e3, ?_⟩
  unfold someR
  rw [e1, e2, wrap_i64_of (by omega) (by omega)]
  rw [show (if (0 : Int) > (k : Int) - (t : Int) then 0 else (k : Int) - (t : Int)) = ((k - t : Nat) : Int) by split <;> omega, e3]
def bringI (n : Int) : Int := within n 1 60
def w_grid_bring (n : Int) (σ : Heap) : Option (Int × Heap) := some (bringI n, σ)
theorem ok_grid_bring : Ok_grid_bring w_grid_bring := fun n σ v σ' h => by
  injection h with h; injection h with h1 h2; subst h1; subst h2
  exact call_ok ok known0_ok (L := 0) (n := 2) (grid_bring_eq 0 n σ _)
theorem bring_nat (n : Int) : ∃ k : Nat, 1 ≤ k ∧ k ≤ 60 ∧ bringI n = (k : Int) := by
  refine ⟨(bringI n).toNat, ?_, ?_, ?_⟩ <;> (unfold bringI within; split <;> split <;> omega)

/-! At -/
section
variable {σ : Heap} {p h : Nat} {d : GD}
/-- The slice of a line is read. -/
theorem GridP.line_at (g : GridP σ p h d) {i : Nat} {l : List api_Cell} (hl : d.ls[i]? = some l) : ∃ b e, d.q.b = some b ∧ d.els[i]? = some e ∧ slice? (σ.cell? b (d.q.o + i * 1)) 6 = some (e.b, e.o, e.n) ∧ e.Own eCell σ l ∧ l.length = d.w ∧ i < d.q.n ∧ d.q.n = d.ls.length := by
  obtain ⟨e, he, ho, hlen⟩ := g.get hl
  have hi := (List.getElem?_eq_some_iff.1 he).1
  have hne : d.els ≠ [] := by intro e; rw [e] at hi; simp at hi
  cases hq : g.own with
  | nil _ _ _ h => exact absurd h hne
  | row b hb hqo hn hr =>
    have hc : σ.cell? b (d.q.o + i * 1) = some (.slice e.b e.o e.n 6) := by
      unfold Heap.cell?
      rw [row?_of hr (by simp), Option.bind_some, hqo, Nat.zero_add]
      have := eSl.all_get d.els i 0 e he (by decide)
      exact this
    refine ⟨b, e, hb, he, ?_, ho, hlen, by rw [hn]; exact hi, by rw [hn]; exact g.len⟩
    rw [hc]
    unfold slice?
    cases e with
    | mk eb eo en => cases eb <;> rfl
end
def atG (d : GD) (x y : Int) : api_Cell := if 0 ≤ x ∧ 0 ≤ y then ((d.ls[y.toNat]?).bind fun l => l[x.toNat]?).getD zeroC else zeroC
noncomputable def c_grid_Grid_At : C_grid_Grid_At := { grid_Grid_there := w_grid_Grid_there }
noncomputable def w_grid_Grid_At (g : Pt) (x y : Int) (σ : Heap) : Option (api_Cell × Heap) := wOf (fun t : Nat × GD => g = some (t.1, 0) ∧ GridR σ t.1 t.2) fun t => (atG t.2 x y, σ)
theorem grid_pt {g : Pt} {σ : Heap} {t t' : Nat × GD} (h : g = some (t.1, 0) ∧ GridR σ t.1 t.2) (h' : g = some (t'.1, 0) ∧ GridR σ t'.1 t'.2) : t = t' := by
  obtain ⟨p, d⟩ := t
  obtain ⟨p', d'⟩ := t'
  obtain ⟨e1, g1⟩ := h
  obtain ⟨e2, g2⟩ := h'
  rw [e1] at e2
  injection e2 with e2
  injection e2 with e2
  simp only at e2 g1 g2
  subst e2
  rw [g1.uniq g2]
theorem w_grid_Grid_At_eq {x y : Int} {σ : Heap} {p : Nat} {d : GD} (hg : GridR σ p d) : w_grid_Grid_At (some (p, 0)) x y σ = some (atG d x y, σ) :=
  wOf_eq (x := (p, d)) ⟨rfl, hg⟩ fun t ht => by rw [grid_pt ht (t' := (p, d)) ⟨rfl, hg⟩]
theorem ok_grid_Grid_At : Ok_grid_Grid_At w_grid_Grid_At := fun g x y σ v σ' h => by
  obtain ⟨⟨p, d⟩, ⟨rfl, hg⟩, e⟩ := wOf_some h
  injection e with e1 e2
  subst e1; subst e2
  refine call_ok ok (K_grid_Grid_At c_grid_Grid_At ok_grid_Grid_there) (L := 0) (n := 2) ((grid_Grid_At_eq c_grid_Grid_At 0 (some (p, 0)) x y σ _).trans ?_)
  simp only at hg
  have p1 : c_grid_Grid_At.grid_Grid_there = w_grid_Grid_there := rfl
  rw [p1, w_grid_Grid_there_eq hg.head, Option.bind_some]
  cases ht : thereB x y d.w d.ls.length with
  | false =>
    have e : atG d x y = zeroC := by
      unfold atG
      split
      · rename_i h0
        have hn : ¬ (0 ≤ x ∧ 0 ≤ y ∧ x < d.w ∧ y < d.ls.length) := fun hc => by rw [thereB_iff.2 hc] at ht; cases ht
        cases hl : d.ls[y.toNat]? with
        | none => rfl
        | some l =>
          have := (List.getElem?_eq_some_iff.1 hl).1
          obtain ⟨_, _, _, hlen⟩ := hg.get hl
          rw [Option.bind_some, List.getElem?_eq_none (by rw [hlen]; omega)]
          rfl
      · rfl
    rw [e]
    rfl
  | true =>
    obtain ⟨h1, h2, h3, h4⟩ := thereB_iff.1 ht
    obtain ⟨i, rfl⟩ := Int.eq_ofNat_of_zero_le h1
    obtain ⟨j, rfl⟩ := Int.eq_ofNat_of_zero_le h2
    have hj : j < d.ls.length := by omega
    obtain ⟨b, e, k1, k2, k3, k4, k5, k6, k7⟩ := hg.line_at (List.getElem?_eq_getElem hj)
    have hi : i < d.ls[j].length := by omega
    obtain ⟨b2, f, f0, f1, f2, f3, f4, f5⟩ := cell_at k4 (List.getElem?_eq_getElem hi)
    have hen := k4.n
    simp only [Bool.not_true, cond_false, Option.bind_some, hg.head.c2, dec0, lt_true k6, Bool.and_self, cond_true, Int.toNat_natCast]
    rw [k1, Option.bind_some, k3, Option.bind_some]
    simp only [hen, lt_true hi, Bool.and_self, cond_true, f, Option.bind_some, f0, f1, f2, f3, f4, f5, int?, bool?, if_true]
    unfold atG
    rw [if_pos ⟨h1, h2⟩, Int.toNat_natCast, Int.toNat_natCast, List.getElem?_eq_getElem hj, Option.bind_some, List.getElem?_eq_getElem hi]
    rfl
end Go.Abs.TA
namespace Go.Abs.TA
open Go Go.Abs Go.Proofs

def eI32 : El Int := ⟨1, fun n => [.int .i32 n], fun _ => rfl, fun a b h => by simpa using h⟩
instance : El.Flat eI32 := ⟨fun _ => rfl⟩
theorem runes_all : ∀ (xs : List Int), runesIn (eI32.all xs) = some xs
  | [] => rfl
  | x :: xs => by
    rw [El.all_cons]
    show (runesIn (eI32.all xs)).map (fun l => x :: l) = _
    rw [runes_all xs]
    rfl
/-- How many there are up to the last that is no blank. -/
def lastN (rs : List Int) : Nat := rs.length - (rs.reverse.takeWhile (fun r => r == 32)).length
theorem lastN_nil : lastN [] = 0 := rfl
theorem lastN_le (rs : List Int) : lastN rs ≤ rs.length := by unfold lastN; omega
theorem takeWhile_len {α : Type} (f : α → Bool) : ∀ l : List α, (l.takeWhile f).length ≤ l.length
  | [] => Nat.le_refl _
  | x :: xs => by
    rw [List.takeWhile_cons]
    split
    · have := takeWhile_len f xs
      simp; omega
    · simp
theorem lastN_blank (rs : List Int) : lastN (rs ++ [32]) = lastN rs := by
  unfold lastN
  rw [List.reverse_append, List.reverse_singleton, List.singleton_append, List.takeWhile_cons_of_pos rfl]
  simp
theorem lastN_not {r : Int} (rs : List Int) (h : r ≠ 32) : lastN (rs ++ [r]) = rs.length + 1 := by
  unfold lastN
  rw [List.reverse_append, List.reverse_singleton, List.singleton_append, List.takeWhile_cons_of_neg (by simpa using h)]
  simp
/-- A line's runes, without rests. -/
def runesL (l : List api_Cell) : List Int := (l.map (·.Rune)).filter (fun r => r != 0)
theorem runesL_in {l : List api_Cell} {i : Nat} {c : api_Cell} (h : l[i]? = some c) : runesL (l.take (i + 1)) = bif c.Rune == 0 then runesL (l.take i) else runesL (l.take i) ++ [c.Rune] := by
  obtain ⟨hi, rfl⟩ := List.getElem?_eq_some_iff.1 h
  unfold runesL
  rw [List.take_succ_eq_append_getElem hi, List.map_append, List.filter_append]
  by_cases h0 : l[i].Rune = 0
  · rw [show (l[i].Rune == 0) = true by simpa using h0, cond_true]
    simp [h0]
  · rw [show (l[i].Rune == 0) = false by simpa using h0, cond_false]
    simp [h0]
theorem runesL_len (l : List api_Cell) : (runesL l).length ≤ l.length := by
  unfold runesL
  refine Nat.le_trans (List.length_filter_le _ _) (by simp)
/-- A line's text. -/
def textL (l : List api_Cell) : ByteArray := encodeAll ((runesL l).take (lastN (runesL l)))
def textG (d : GD) (y : Int) : ByteArray := if 0 ≤ y then (match d.ls[y.toNat]? with | some l => textL l | none => ⟨#[]⟩) else ⟨#[]⟩
noncomputable def c_grid_Grid_Text : C_grid_Grid_Text := { grid_Grid_there := w_grid_Grid_there }
noncomputable def w_grid_Grid_Text (g : Pt) (y : Int) (σ : Heap) : Option (ByteArray × Heap) := wOf (fun t : Nat × GD => g = some (t.1, 0) ∧ GridR σ t.1 t.2) fun t => (textG t.2 y, σ)
theorem w_grid_Grid_Text_eq {y : Int} {σ : Heap} {p : Nat} {d : GD} (hg : GridR σ p d) : w_grid_Grid_Text (some (p, 0)) y σ = some (textG d y, σ) :=
  wOf_eq (x := (p, d)) ⟨rfl, hg⟩ fun t ht => by rw [grid_pt ht (t' := (p, d)) ⟨rfl, hg⟩]
theorem Text_loop {L : Nat} {s : Sl} {σ0 : Heap} {l : List api_Cell} (hs : s.Is eCell σ0 l) (hl : l.length ≤ 1000) :
    ∀ (k i m : Nat) (out : Sl) (σ : Heap), i + k = l.length → k < m → Mine eI32 σ0 out σ (runesL (l.take i)) →
      ∃ σ1, σ0 <+: σ1 ∧ grid_Grid_Text_L6 (R := AVal × Heap) c_grid_Grid_Text L m out (lastN (runesL (l.take i)) : Int) (s.b, s.o, s.n) (i : Int) σ (fun v σ => some (v, σ)) = some (.str (textL l), σ1)
  | k, i, 0, _, _, _, h, _ => by omega
  | 0, i, m + 1, out, σ, h, _, ho => by
    have e : i = l.length := by omega
    subst e
    rw [List.take_length] at ho ⊢
    have hrl := runesL_len l
    have hn := lastN_le (runesL l)
    refine ⟨σ, ho.pre, ?_⟩
    rw [grid_Grid_Text_L6_eq, hs.n, lt_false (Nat.lt_irrefl _), cond_false, dec0, ho.own.len, show decide ((lastN (runesL l) : Int) ≤ ((runesL l).length : Int)) = true by simpa using hn, Bool.and_self, cond_true, Int.toNat_natCast]
    have hr : σ.read out.b out.o (lastN (runesL l)) 1 = some (eI32.all ((runesL l).take (lastN (runesL l)))) := (ho.own.is (by omega)).readn hn
    rw [hr, Option.bind_some, runes_all, Option.bind_some]
    rfl
  | k + 1, i, m + 1, out, σ, h, hm, ho => by
    have hi : i < l.length := by omega
    have hx := List.getElem?_eq_getElem hi
    obtain ⟨b, hb, f0, f1, f2, f3, f4, f5⟩ := cell_at (hs.pre ho.pre) hx
    have hrl := runesL_len (l.take i)
    have htl : (l.take i).length ≤ i := by simp; omega
    rw [grid_Grid_Text_L6_eq, hs.n, lt_true hi, dec0, Bool.and_self]
    simp only [cond_true, hb, Option.bind_some, Int.toNat_natCast, f0, f1, f2, f3, f4, f5, int?, bool?, if_true, wrap_i64_succ i (show i < 9223372036854775807 by omega)]
    have hri := runesL_in hx
    cases h0 : l[i].Rune == 0 with
    | true =>
      rw [h0, cond_true] at hri
      rw [cond_true, ← hri]
      rw [← hri] at ho
      have := Text_loop (L := L) hs hl k (i + 1) m out σ (by omega) (by omega) ho
      rw [hb, hs.n] at this
      exact this
    | false =>
      rw [h0, cond_false] at hri
      obtain ⟨q, σ', ha, hM⟩ := ho.append (zs := [l[i].Rune]) (bytes := 4) (vs := [.int .i32 l[i].Rune]) (k := 1) (by simp [eI32, El.all]) rfl (by simp; omega) (by simp; omega)
      rw [← hri] at hM
      have ha' : σ.append out.b out.o out.n 1 4 [.int .i32 l[i].Rune] 1 = some (q, σ') := ha
      rw [cond_false, ha', Option.bind_some]
      have := Text_loop (L := L) hs hl k (i + 1) m ⟨q.1, q.2.1, q.2.2⟩ σ' (by omega) (by omega) hM
      rw [hb, hs.n] at this
      have hql : q.2.2 = (runesL (l.take (i + 1))).length := hM.own.len
      cases h3 : l[i].Rune != 32 with
      | true =>
        rw [cond_true]
        have e1 : lastN (runesL (l.take (i + 1))) = q.2.2 := by
          rw [hql, hri, lastN_not _ (by simpa using h3)]
          simp
        rw [e1] at this
        exact this
      | false =>
        rw [cond_false]
        have e1 : lastN (runesL (l.take (i + 1))) = lastN (runesL (l.take i)) := by
          rw [hri, show l[i].Rune = 32 by simpa using h3, lastN_blank]
        rw [e1] at this
        exact this
theorem ok_grid_Grid_Text : Ok_grid_Grid_Text w_grid_Grid_Text := fun g y σ v σ' h => by
  obtain ⟨⟨p, d⟩, ⟨rfl, hg⟩, e⟩ := wOf_some h
  injection e with e1 e2
  subst e1; subst e2
  simp only at hg
  have p1 : c_grid_Grid_Text.grid_Grid_there = w_grid_Grid_there := rfl
  have go : ∃ σ1, σ <+: σ1 ∧ callC (R := AVal × Heap) T (O_grid_Grid_Text c_grid_Grid_Text) 1001 2 37 [.ptr (some (p, 0)), .int .i64 y] σ (fun v σ => some (v, σ)) = some (.str (textG d y), σ1) := by
    rw [grid_Grid_Text_eq, p1, w_grid_Grid_there_eq hg.head, Option.bind_some]
    have hw1 := hg.w1
    have hw2 := hg.w2
    cases ht : thereB 0 y d.w d.ls.length with
    | false =>
      have e : textG d y = ⟨#[]⟩ := by
        unfold textG
        split
        · rename_i h0
          have hn : ¬ ((0 : Int) ≤ 0 ∧ 0 ≤ y ∧ (0 : Int) < d.w ∧ y < d.ls.length) := fun hc => by rw [thereB_iff.2 hc] at ht; cases ht
          rw [List.getElem?_eq_none (by omega)]
        · rfl
      rw [e]
      exact ⟨σ, List.prefix_rfl, rfl⟩
    | true =>
      obtain ⟨_, h2, _, h4⟩ := thereB_iff.1 ht
      obtain ⟨j, rfl⟩ := Int.eq_ofNat_of_zero_le h2
      have hj : j < d.ls.length := by omega
      obtain ⟨b, e, k1, k2, k3, k4, k5, k6, k7⟩ := hg.line_at (List.getElem?_eq_getElem hj)
      simp only [Bool.not_true, cond_false, Option.bind_some, hg.head.c2, dec0, lt_true k6, Bool.and_self, cond_true, Int.toNat_natCast]
      rw [k1, Option.bind_some, k3, Option.bind_some]
      obtain ⟨σ1, g1, g2⟩ := Text_loop (L := 1001) k4 (by omega) d.ls[j].length 0 1001 ⟨none, 0, 0⟩ σ (by omega) (by omega) (Mine.start σ)
      refine ⟨σ1, g1, ?_⟩
      have e : textG d (j : Int) = textL d.ls[j] := by
        unfold textG
        rw [if_pos h2, Int.toNat_natCast, List.getElem?_eq_getElem hj]
      rw [e]
      exact g2
  obtain ⟨σ1, g1, g2⟩ := go
  exact call_gc0 (call_ok ok (K_grid_Grid_Text c_grid_Grid_Text ok_grid_Grid_there) (L := 1001) (n := 2) g2) (fun b hb => get_pre g1 hb) trivial
end Go.Abs.TA
namespace Go.Abs.TA
open Go Go.Abs Go.Proofs

def bl0 : api_Cell := blankC ⟨false, false, false, 0, 0⟩
/-- A new grid. -/
structure Made (σ σ' : Heap) (v : Pt) (p : Nat) (d : GD) : Prop where
  at_ : v = some (p, 0)
  grid : Grid σ' p d
  pre : σ <+: σ'
  new : ∀ b, some b ∈ d.foot p → σ.length ≤ b
/-- .. on its way. -/
structure Making (σ0 σ : Heap) (p h : Nat) (d : GD) : Prop where
  grid : GridP σ p h d
  pre : σ0 <+: σ
  new : ∀ b, some b ∈ d.foot p → σ0.length ≤ b
theorem Making.start {σ0 : Heap} {w h : Nat} (h1 : 1 ≤ w) (h2 : w ≤ 60) : Making σ0 (σ0 ++ [.row [.int .i64 (w : Int), .int .i64 (h : Int), .slice none 0 0 1] .rw]) σ0.length h ⟨⟨none, 0, 0⟩, [], w, []⟩ where
  grid := ⟨get_push .., .nil rfl rfl rfl rfl, rfl, fun i e l h _ => by simp at h, fun l h => by simp at h, h1, h2, by simp [GD.foot]⟩
  pre := pre_push ..
  new := fun b hb => by
    simp [GD.foot] at hb
    omega
theorem Making.push {σ0 τ σ : Heap} {p h : Nat} {d : GD} (m : Making σ0 τ p h d) (hp : τ <+: σ) {e' : Sl} {l' : List api_Cell} (ho : e'.Own eCell σ l') (hl : l'.length = d.w) (hc : ∀ c, e'.b = some c → τ.length ≤ c) (hn : d.els.length ≤ 1000) :
    ∃ q' σ1 σ2 d', σ.append d.q.b d.q.o d.q.n 1 24 [.slice e'.b e'.o e'.n 6] 1 = some (q', σ1) ∧ σ1.store p 2 [.slice q'.1 q'.2.1 q'.2.2 1] = some σ2 ∧ Making σ0 σ2 p h d' ∧ d'.w = d.w ∧ d'.ls = d.ls ++ [l'] := by
  obtain ⟨q', σ1, σ2, k1, k2, k3, k4⟩ := m.grid.push hp ho hl hc hn
  refine ⟨q', σ1, σ2, _, k1, k2, ⟨k3, k4.pre m.pre m.new, fun b hb => ?_⟩, rfl, rfl⟩
  have := m.pre.length_le
  rcases k4.foot b hb with h1 | h1
  · exact m.new b h1
  · omega
theorem fresh_frz1 {α : Type} (E : El α) (σ : Heap) (nil : Bool) (ys : List α) : (fresh E σ.frz nil ys).1 = (fresh E σ nil ys).1 := (fresh_frz E σ nil ys).1
theorem fresh_frz2 {α : Type} (E : El α) (σ : Heap) (nil : Bool) (ys : List α) : σ.back (fresh E σ.frz nil ys).2 = (fresh E σ nil ys).2 := (fresh_frz E σ nil ys).2
theorem Head.c2' {σ : Heap} {p w h : Nat} {q : Sl} (hh : Head σ p w h q) : slice? (σ.cell? p 2) 1 = some (q.b, q.o, q.n) := hh.c2
theorem Head.c1' {σ : Heap} {p w h : Nat} {q : Sl} (hh : Head σ p w h q) : int? (σ.cell? p 1) .i64 = some (h : Int) := hh.c1
/-! New -/
noncomputable def c_grid_New : C_grid_New := { grid_blank := w_grid_blank, grid_bring := w_grid_bring }
theorem New_loop {L : Nat} {σ0 : Heap} {p w h : Nat} (hh : h ≤ 60) :
    ∀ (k i m : Nat) (σ : Heap) (d : GD), i + k = h → k < m → Making σ0 σ p h d → d.w = w → d.ls = List.replicate i (List.replicate w bl0) →
      ∃ σ1 d', Making σ0 σ1 p h d' ∧ d'.w = w ∧ d'.ls = List.replicate h (List.replicate w bl0) ∧ grid_New_L3 (R := AVal × Heap) c_grid_New L m p (h : Int) (i : Int) σ (fun v σ => some (v, σ)) = some (.ptr (some (p, 0)), σ1)
  | k, i, 0, _, _, _, h, _, _, _ => by omega
  | 0, i, m + 1, σ, d, hk, _, hm, hw, hl => by
    have e : i = h := by omega
    subst e
    exact ⟨σ, d, hm, hw, hl, by rw [grid_New_L3_eq, lt_false (Nat.lt_irrefl _)]; rfl⟩
  | k + 1, i, m + 1, σ, d, hk, hm1, hm, hw, hl => by
    have hi : i < h := by omega
    have p1 : c_grid_New.grid_blank = w_grid_blank := rfl
    have hw2 := hm.grid.w2
    rw [grid_New_L3_eq, lt_true hi, cond_true, hm.grid.head.c2', Option.bind_some, hm.grid.head.c0, Option.bind_some, p1, w_grid_blank_eq (by omega), Option.bind_some, fresh_frz2, fresh_frz1, Heap.back_frz]
    have A := fresh_own eCell σ false (List.replicate d.w (blankC ⟨false, false, false, 0, 0⟩)) (by simp)
    have AP := fresh_pre eCell σ false (List.replicate d.w (blankC ⟨false, false, false, 0, 0⟩))
    have AN := fresh_new eCell σ false (List.replicate d.w (blankC ⟨false, false, false, 0, 0⟩))
    generalize fresh eCell σ false (List.replicate d.w (blankC ⟨false, false, false, 0, 0⟩)) = q10 at A AP AN ⊢
    have hel : d.els.length = i := by rw [hm.grid.len, hl]; simp
    obtain ⟨q', σ1, σ2, d', k1, k2, k3, k4, k5⟩ := hm.push AP A (by simp) AN (by omega)
    simp only
    rw [k1, Option.bind_some, k2, Option.bind_some, wrap_i64_succ i (by omega)]
    exact New_loop (L := L) hh k (i + 1) m σ2 d' (by omega) (by omega) k3 (by rw [k4, hw]) (by rw [k5, hl, hw, List.replicate_succ']; rfl)
noncomputable def w_grid_New (w h : Int) (σ : Heap) : Option (Pt × Heap) :=
  wRel fun v σ' => CallOK Tryd.prog T 53 [(tInt .i64).av w, (tInt .i64).av h] σ (tPtr.av v) σ' ∧
    ∃ p d, Made σ σ' v p d ∧ d.w = (bringI w).toNat ∧ d.ls = List.replicate (bringI h).toNat (List.replicate (bringI w).toNat bl0)
theorem ok_grid_New : Ok_grid_New w_grid_New := fun _ _ _ _ _ h => (wRel_some h).1
theorem w_grid_New_ex (w h : Int) (σ : Heap) : ∃ p σ' d, w_grid_New w h σ = some (some (p, 0), σ') ∧ Made σ σ' (some (p, 0)) p d ∧ d.w = (bringI w).toNat ∧ d.ls = List.replicate (bringI h).toNat (List.replicate (bringI w).toNat bl0) := by
  obtain ⟨w', hw1, hw2, ew⟩ := bring_nat w
  obtain ⟨h', hh1, hh2, eh⟩ := bring_nat h
  obtain ⟨σ1, d', k1, k2, k3, k4⟩ := New_loop (L := 100) (σ0 := σ) (w := w') hh2 h' 0 100 _ _ (by omega) (by omega) (Making.start hw1 hw2) rfl rfl
  have hc : callC (R := AVal × Heap) T (O_grid_New c_grid_New) 100 2 53 [.int .i64 w, .int .i64 h] σ (fun v σ => some (v, σ)) = some (.ptr (some (σ.length, 0)), σ1) := by
    have p1 : c_grid_New.grid_bring = w_grid_bring := rfl
    rw [grid_New_eq, p1]
    simp only [w_grid_bring, Option.bind_some, alloc]
    rw [ew, eh]
    have hh0 : Head (σ ++ [.row [.int .i64 (w' : Int), .int .i64 (h' : Int), .slice none 0 0 1] .rw]) σ.length w' h' ⟨none, 0, 0⟩ := get_push ..
    rw [hh0.c1', Option.bind_some]
    exact k4
  have hlen : d'.ls.length = h' := by rw [k3]; simp
  have hG : Grid σ1 σ.length d' := ⟨by rw [hlen]; exact k1.grid, by omega, by omega⟩
  obtain ⟨x, hx, hP⟩ := wRel_ex (P := fun v σ' => CallOK Tryd.prog T 53 [(tInt .i64).av w, (tInt .i64).av h] σ (tPtr.av v) σ' ∧
    ∃ p d, Made σ σ' v p d ∧ d.w = (bringI w).toNat ∧ d.ls = List.replicate (bringI h).toNat (List.replicate (bringI w).toNat bl0)) (v := some (σ.length, 0)) (σ := σ1)
    ⟨call_ok ok (K_grid_New c_grid_New ok_grid_blank ok_grid_bring) (L := 100) (n := 2) hc, σ.length, d', ⟨rfl, hG, k1.pre, k1.new⟩, by rw [ew, k2]; simp, by rw [ew, eh, k3]; simp⟩
  obtain ⟨_, p, d, hM, h1, h2⟩ := hP
  obtain ⟨v, σ'⟩ := x
  have := hM.at_
  simp only at this
  subst this
  exact ⟨p, σ', d, hx, hM, h1, h2⟩
/-! Copy -/
noncomputable def c_grid_Grid_Copy : C_grid_Grid_Copy := { slices_Clone := w_slices_Clone }
theorem Copy_loop {L : Nat} {σ0 : Heap} {p0 p : Nat} {d0 : GD} (g0 : Grid σ0 p0 d0) :
    ∀ (k i m : Nat) (σ : Heap) (d : GD), i + k = d0.ls.length → k < m → Making σ0 σ p d0.ls.length d → d.w = d0.w → d.ls = d0.ls.take i →
      ∃ σ1 d', Making σ0 σ1 p d0.ls.length d' ∧ d'.w = d0.w ∧ d'.ls = d0.ls ∧ grid_Grid_Copy_L3 (R := AVal × Heap) c_grid_Grid_Copy L m p (d0.q.b, d0.q.o, d0.q.n) (i : Int) σ (fun v σ => some (v, σ)) = some (.ptr (some (p, 0)), σ1)
  | k, i, 0, _, _, _, h, _, _, _ => by omega
  | 0, i, m + 1, σ, d, hk, _, hm, hw, hl => by
    have e : i = d0.ls.length := by omega
    subst e
    rw [List.take_length] at hl
    refine ⟨σ, d, hm, hw, hl, ?_⟩
    have hqn : d0.q.n = d0.ls.length := by rw [g0.own.len, g0.len]
    rw [grid_Grid_Copy_L3_eq, hqn, lt_false (Nat.lt_irrefl _)]
    rfl
  | k + 1, i, m + 1, σ, d, hk, hm1, hm, hw, hl => by
    have hi : i < d0.ls.length := by omega
    have p1 : c_grid_Grid_Copy.slices_Clone = w_slices_Clone := rfl
    have hw2 := g0.w2
    have hw1 := g0.w1
    have hh2 := g0.h2
    obtain ⟨b, e, a1, a2, a3, a4, a5, a6, a7⟩ := (g0.pre hm.pre).line_at (List.getElem?_eq_getElem hi)
    obtain ⟨c, hec, _, _, _⟩ := own_some a4 (by omega)
    rw [grid_Grid_Copy_L3_eq, lt_true a6, dec0, Bool.and_self]
    simp only [cond_true, Int.toNat_natCast, a1, Option.bind_some, a3]
    rw [hm.grid.head.c2', Option.bind_some, p1, w_slices_Clone_eq (a4.is (by omega)).frz (by omega), Option.bind_some, hec, fresh_frz2, fresh_frz1, Heap.back_frz]
    have A := fresh_own eCell σ (some c).isNone d0.ls[i] (by simp)
    have AP := fresh_pre eCell σ (some c).isNone d0.ls[i]
    have AN := fresh_new eCell σ (some c).isNone d0.ls[i]
    generalize fresh eCell σ (some c).isNone d0.ls[i] = q10 at A AP AN ⊢
    have hel : d.els.length = i := by rw [hm.grid.len, hl]; simp; omega
    obtain ⟨q', σ1, σ2, d', k1, k2, k3, k4, k5⟩ := hm.push AP A (by rw [a5, hw]) AN (by omega)
    rw [k1, Option.bind_some, k2, Option.bind_some, wrap_i64_succ i (by omega)]
    obtain ⟨σ3, d3, c1, c2, c3, c4⟩ := Copy_loop (L := L) g0 k (i + 1) m σ2 d' (by omega) (by omega) k3 (by rw [k4, hw]) (by rw [k5, hl, List.take_succ_eq_append_getElem hi])
    rw [a1] at c4
    exact ⟨σ3, d3, c1, c2, c3, c4⟩
noncomputable def w_grid_Grid_Copy (g : Pt) (σ : Heap) : Option (Pt × Heap) :=
  wRel fun v σ' => CallOK Tryd.prog T 38 [tPtr.av g] σ (tPtr.av v) σ' ∧
    ∀ p0 d0, g = some (p0, 0) → Grid σ p0 d0 → ∃ p d, Made σ σ' v p d ∧ d.w = d0.w ∧ d.ls = d0.ls
theorem ok_grid_Grid_Copy : Ok_grid_Grid_Copy w_grid_Grid_Copy := fun _ _ _ _ h => (wRel_some h).1
theorem w_grid_Grid_Copy_ex {p0 : Nat} {d0 : GD} {σ : Heap} (g0 : Grid σ p0 d0) : ∃ p σ' d, w_grid_Grid_Copy (some (p0, 0)) σ = some (some (p, 0), σ') ∧ Made σ σ' (some (p, 0)) p d ∧ d.w = d0.w ∧ d.ls = d0.ls := by
  obtain ⟨σ1, d', k1, k2, k3, k4⟩ := Copy_loop (L := 100) (p := σ.length) g0 d0.ls.length 0 100 _ _ (by omega) (by have := g0.h2; omega) (Making.start g0.w1 g0.w2) rfl rfl
  have hc : callC (R := AVal × Heap) T (O_grid_Grid_Copy c_grid_Grid_Copy) 100 2 38 [.ptr (some (p0, 0))] σ (fun v σ => some (v, σ)) = some (.ptr (some (σ.length, 0)), σ1) := by
    rw [grid_Grid_Copy_eq]
    simp only [Option.bind_some, alloc, g0.head.c0, g0.head.c1]
    have hh0 := g0.head.same (get_pre (pre_push σ (.row [.int .i64 (d0.w : Int), .int .i64 (d0.ls.length : Int), .slice none 0 0 1] .rw)) g0.head.lt)
    rw [hh0.c2, Option.bind_some]
    exact k4
  have hG : Grid σ1 σ.length d' := ⟨by rw [k3]; exact k1.grid, by rw [k3]; exact g0.h1, by rw [k3]; exact g0.h2⟩
  obtain ⟨x, hx, hP⟩ := wRel_ex (P := fun v σ' => CallOK Tryd.prog T 38 [tPtr.av (some (p0, 0))] σ (tPtr.av v) σ' ∧
    ∀ p1 d1, (some (p0, 0) : Pt) = some (p1, 0) → Grid σ p1 d1 → ∃ p d, Made σ σ' v p d ∧ d.w = d1.w ∧ d.ls = d1.ls) (v := some (σ.length, 0)) (σ := σ1)
    ⟨call_ok ok (K_grid_Grid_Copy c_grid_Grid_Copy ok_slices_Clone) (L := 100) (n := 2) hc, fun p1 d1 e g1 => by
      injection e with e
      injection e with e
      subst e
      rw [g1.uniq g0]
      exact ⟨σ.length, d', ⟨rfl, hG, k1.pre, k1.new⟩, k2, k3⟩⟩
  obtain ⟨p, d, hM, h1, h2⟩ := hP.2 p0 d0 rfl g0
  obtain ⟨v, σ'⟩ := x
  have := hM.at_
  simp only at this
  subst this
  exact ⟨p, σ', d, hx, hM, h1, h2⟩
end Go.Abs.TA
namespace Go.Abs.TA
open Go Go.Abs Go.Proofs

/-- Some elements are others. -/
def over {α : Type} (xs : List α) (i : Nat) (ys : List α) : List α := xs.take i ++ ys ++ xs.drop (i + ys.length)
theorem over_len {α : Type} {xs ys : List α} {i : Nat} (h : i + ys.length ≤ xs.length) : (over xs i ys).length = xs.length := by
  simp [over]; omega
theorem over_nil {α : Type} (xs : List α) (i : Nat) : over xs i [] = xs := by simp [over]
theorem over_get {α : Type} {xs ys : List α} {i : Nat} (h : i + ys.length ≤ xs.length) (j : Nat) : (over xs i ys)[j]? = if j < i then xs[j]? else if j < i + ys.length then ys[j - i]? else xs[j]? := by
  unfold over
  have hti : (xs.take i).length = i := by simp; omega
  by_cases h1 : j < i
  · rw [if_pos h1, List.append_assoc, List.getElem?_append_left (by omega), List.getElem?_take, if_pos h1]
  · rw [if_neg h1]
    by_cases h2 : j < i + ys.length
    · rw [if_pos h2, List.getElem?_append_left (by simp; omega), List.getElem?_append_right (by omega), hti]
    · rw [if_neg h2, List.getElem?_append_right (by simp; omega), List.getElem?_drop]
      congr 1
      simp
      omega
theorem over_one {α : Type} {xs : List α} {i : Nat} {y : α} (h : i < xs.length) : over xs i [y] = xs.set i y := by
  unfold over
  rw [List.set_eq_take_append_cons_drop, if_pos h]
  simp
theorem _root_.Go.Abs.El.all_over {α : Type} (E : El α) {xs ys : List α} {i : Nat} (h : i + ys.length ≤ xs.length) : overwrite (E.all xs) (i * E.z) (E.all ys) = E.all (over xs i ys) := by
  have e : xs = xs.take i ++ ((xs.drop i).take ys.length ++ xs.drop (i + ys.length)) := by
    rw [← List.drop_drop, List.take_append_drop, List.take_append_drop]
  conv => lhs; rw [e]
  rw [E.all_append, E.all_append, ← List.append_assoc]
  have hl : (E.all (xs.take i)).length = i * E.z := by rw [E.all_len]; congr 1; simp; omega
  have := overwrite_append (E.all ys) (E.all (xs.take i)) (E.all ((xs.drop i).take ys.length)) (E.all (xs.drop (i + ys.length))) (by rw [E.all_len, E.all_len]; congr 1; simp; omega)
  rw [hl] at this
  rw [this]
  unfold over
  rw [E.all_append, E.all_append]
section
variable {σ σ' : Heap} {p h : Nat} {d d' : GD}
/-- Cells of a line are written. -/
theorem GridP.write (g : GridP σ p h d) {y : Nat} {l : List api_Cell} {e : Sl} (hl : d.ls[y]? = some l) (he : d.els[y]? = some e) {x : Nat} {ys : List api_Cell} (hx : x + ys.length ≤ l.length) :
    ∃ b σ', e.b = some b ∧ σ.store b (e.o + x * 6) (eCell.all ys) = some σ' ∧ GridP σ' p h ⟨d.q, d.els, d.w, d.ls.set y (over l x ys)⟩ ∧ Turn σ p d σ' ⟨d.q, d.els, d.w, d.ls.set y (over l x ys)⟩ := by
  have ho := g.line y e l he hl
  have hlw := g.wide l (List.mem_of_getElem? hl)
  have hw := g.w1
  obtain ⟨b, hb, heo, hen, hr⟩ := own_some ho (by omega)
  obtain ⟨σ', k1, k2, k3, k4⟩ := store_own (E := eCell) ho hb (o := x * 6) (vs := eCell.all ys) (ys := over l x ys) (eCell.all_over hx) (over_len hx) (by
    rw [eCell.all_len]
    show x * 6 + ys.length * 6 ≤ l.length * 6
    omega)
  have hmem : some b ∈ d.foot p := by
    simp only [GD.foot, List.mem_cons, List.mem_map]
    exact .inr (.inr ⟨e, List.mem_of_getElem? he, hb⟩)
  refine ⟨b, σ', hb, by rw [heo, Nat.zero_add]; exact k1, ?_, ⟨by omega, fun x hx hn => k4 x (fun e => hn (e ▸ hmem)), fun x hx => .inl hx⟩⟩
  exact g.reline he k2 (by rw [over_len hx, hlw]) (fun b' hb' => k4 b' (fun e2 => hb' (by rw [hb, e2])))
/-- A grid's blocks can be written. -/
theorem GridP.foot_rw (g : GridP σ p h d) {b : Nat} (hb : some b ∈ d.foot p) : ∃ cs, σ[b]? = some (.row cs .rw) := by
  simp only [GD.foot, List.mem_cons, List.mem_map] at hb
  rcases hb with hb | hb | ⟨e, he, hb⟩
  · injection hb with hb
    rw [hb]; exact ⟨_, g.head⟩
  · cases g.own with
    | nil h1 _ _ _ => rw [h1] at hb; cases hb
    | row c h1 _ _ h4 =>
      rw [h1] at hb
      injection hb with hb
      rw [hb]
      exact ⟨_, h4⟩
  · obtain ⟨i, hi⟩ := List.mem_iff_getElem?.1 he
    obtain ⟨l, _, ho, hlen⟩ := g.el hi
    have := g.w1
    obtain ⟨c, hc, _, _, hr⟩ := own_some ho (by omega)
    rw [hc] at hb
    injection hb with hb
    rw [← hb]
    exact ⟨_, hr⟩
theorem Turn.wide (t : Turn σ p d σ' d') (g : GridP σ p h d) (hw : WideOK σ) : WideOK σ' := by
  unfold WideOK at hw ⊢
  rw [t.at_ 0 (List.getElem?_eq_some_iff.1 hw).1 (fun hm => by
    obtain ⟨cs, hc⟩ := g.foot_rw hm
    rw [hw] at hc
    injection hc with hc
    cases hc)]
  exact hw
/-- The line is mended, and put in its place. -/
theorem mend_tail {R : Type} {K : AVal → Heap → Option R} (g : GridP σ p h d) (hw : WideOK σ) {y : Nat} {l : List api_Cell} {e : Sl} (hl : d.ls[y]? = some l) (he : d.els[y]? = some e) :
    ∃ σ' d', GridP σ' p h d' ∧ Turn σ p d σ' d' ∧ d'.w = d.w ∧ d'.ls = d.ls.set y (mend l) ∧
      ((w_cell_Mend ⟨e.b, e.o, e.n⟩ σ.frz).bind fun q20 =>
        bif (decide ((0 : Int) ≤ (y : Int)) && decide ((y : Int) < (d.q.n : Int))) then
          (d.q.b).bind fun b21 => (Heap.store (Heap.back σ q20.2) b21 (d.q.o + (y : Int).toNat * 1) [.slice q20.1.b q20.1.o q20.1.n 6]).bind fun σ22 => K (.tuple []) σ22
        else none) = K (.tuple []) σ' := by
  have ho := g.line y e l he hl
  have hlw := g.wide l (List.mem_of_getElem? hl)
  have h1 := g.w1
  have h2 := g.w2
  have hy : y < d.els.length := (List.getElem?_eq_some_iff.1 he).1
  have hqn : d.q.n = d.els.length := g.own.len
  obtain ⟨b, hb, _, _, _⟩ := own_some ho (by omega)
  have A := fresh_own eCell σ (some b).isNone (mend l) (by simp)
  have AP := fresh_pre eCell σ (some b).isNone (mend l)
  have AN := fresh_new eCell σ (some b).isNone (mend l)
  have A1 := fresh_frz1 eCell σ (some b).isNone (mend l)
  have A2 := fresh_frz2 eCell σ (some b).isNone (mend l)
  rw [w_cell_Mend_eq (ho.is (by omega)).frz (by omega) hw.frz, Option.bind_some, hqn, dec0, lt_true hy, Bool.and_self, cond_true, Int.toNat_natCast]
  simp only [hb]
  rw [A1, A2]
  generalize fresh eCell σ (some b).isNone (mend l) = q20 at A AP AN ⊢
  obtain ⟨b2, σ', k1, k2, k3, k4⟩ := g.set_line AP A (by rw [mend_len, hlw]) AN hy
  refine ⟨σ', _, k3, k4, rfl, rfl, ?_⟩
  rw [k1, Option.bind_some, k2, Option.bind_some]
end
end Go.Abs.TA
namespace Go.Abs.TA
open Go Go.Abs Go.Proofs

/-- A grid is turned: the lines behind it are told. -/
def Turned (σ σ' : Heap) (p : Nat) (d : GD) (ls' : List (List api_Cell)) : Prop := ∃ d', Grid σ' p d' ∧ Turn σ p d σ' d' ∧ d'.w = d.w ∧ d'.ls = ls'
theorem Turned.refl {σ : Heap} {p : Nat} {d : GD} (g : Grid σ p d) : Turned σ σ p d d.ls := ⟨d, g, Turn.refl, rfl, rfl⟩
theorem uniq_pt {p p' : Nat} (h : (some (p, 0) : Pt) = some (p', 0)) : p' = p := by
  injection h with h
  injection h with h
  exact h.symm
/-! Put -/
def putL (l : List api_Cell) (x : Nat) (c : api_Cell) : List api_Cell :=
  mend (bif wide c.Rune then (if x + 1 < l.length then (l.set x c).set (x + 1) ⟨0, c.Style⟩ else l.set x c) else l.set x c)
theorem putL_len (l : List api_Cell) (x : Nat) (c : api_Cell) : (putL l x c).length = l.length := by
  unfold putL
  rw [mend_len]
  cases wide c.Rune
  · simp
  · rw [cond_true]
    split <;> simp
/-- The line at a place is another one. -/
def atLine (ls : List (List api_Cell)) (y : Int) (f : List api_Cell → List api_Cell) : List (List api_Cell) := if 0 ≤ y then (match ls[y.toNat]? with | some l => ls.set y.toNat (f l) | none => ls) else ls
theorem atLine_nat {ls : List (List api_Cell)} {y : Nat} {l : List api_Cell} {f : List api_Cell → List api_Cell} (h : ls[y]? = some l) : atLine ls (y : Int) f = ls.set y (f l) := by
  unfold atLine
  rw [if_pos (by omega), Int.toNat_natCast, h]
def putG (w : Nat) (ls : List (List api_Cell)) (x y : Int) (c : api_Cell) : List (List api_Cell) :=
  bif thereB x y w ls.length && rightC c then atLine ls y (fun l => putL l x.toNat c) else ls
noncomputable def c_grid_Grid_Put : C_grid_Grid_Put := { grid_Grid_there := w_grid_Grid_there, cell_Right := w_cell_Right, glyph_Wide := w_glyph_Wide, cell_Mend := w_cell_Mend }
noncomputable def w_grid_Grid_Put (g : Pt) (x y : Int) (c : api_Cell) (σ : Heap) : Option (Unit × Heap) :=
  wRel fun v σ' => CallOK Tryd.prog T 64 [tPtr.av g, (tInt .i64).av x, (tInt .i64).av y, t_api_Cell.av c] σ (tVoid.av v) σ' ∧
    ∀ p d, g = some (p, 0) → Grid σ p d → WideOK σ → Turned σ σ' p d (putG d.w d.ls x y c)
theorem ok_grid_Grid_Put : Ok_grid_Grid_Put w_grid_Grid_Put := fun _ _ _ _ _ _ _ h => (wRel_some h).1
theorem w_grid_Grid_Put_ex {p : Nat} {d : GD} {σ : Heap} (hg : Grid σ p d) (hw : WideOK σ) (x y : Int) (c : api_Cell) : ∃ σ', w_grid_Grid_Put (some (p, 0)) x y c σ = some ((), σ') ∧ Turned σ σ' p d (putG d.w d.ls x y c) := by
  have p1 : c_grid_Grid_Put.grid_Grid_there = w_grid_Grid_there := rfl
  have p2 : c_grid_Grid_Put.cell_Right = w_cell_Right := rfl
  have p3 : c_grid_Grid_Put.glyph_Wide = w_glyph_Wide := rfl
  have p4 : c_grid_Grid_Put.cell_Mend = w_cell_Mend := rfl
  have go : ∃ σ', callC (R := AVal × Heap) T (O_grid_Grid_Put c_grid_Grid_Put) 0 2 64 [.ptr (some (p, 0)), .int .i64 x, .int .i64 y, .agg [.int .i32 c.Rune, .bool c.Style.Bold, .bool c.Style.Under, .bool c.Style.Turned, .int .i64 c.Style.Fore, .int .i64 c.Style.Back]] σ (fun v σ => some (v, σ)) = some (.tuple [], σ') ∧ Turned σ σ' p d (putG d.w d.ls x y c) := by
    rw [grid_Grid_Put_eq, p1, w_grid_Grid_there_eq hg.head.row, Option.bind_some]
    unfold putG
    cases ht : thereB x y d.w d.ls.length with
    | false => exact ⟨σ, rfl, Turned.refl hg⟩
    | true =>
      simp only [Bool.not_true, cond_false, p2, w_cell_Right, Option.bind_some, Bool.true_and]
      cases hr : rightC c with
      | false => exact ⟨σ, rfl, Turned.refl hg⟩
      | true =>
        obtain ⟨h1, h2, h3, h4⟩ := thereB_iff.1 ht
        obtain ⟨i, rfl⟩ := Int.eq_ofNat_of_zero_le h1
        obtain ⟨j, rfl⟩ := Int.eq_ofNat_of_zero_le h2
        have hj : j < d.ls.length := by omega
        have hlj := List.getElem?_eq_getElem hj
        obtain ⟨b, e, k1, k2, k3, k4, k5, k6, k7⟩ := hg.line_at hlj
        rw [atLine_nat hlj, Int.toNat_natCast]
        generalize d.ls[j] = l at hlj k4 k5 ⊢
        have hil : i < l.length := by omega
        have hw2 := hg.w2
        obtain ⟨b2, σ12, w1, w2, w3, w4⟩ := hg.write hlj k2 (x := i) (ys := [c]) (by simp; omega)
        rw [over_one hil] at w3 w4
        have w2' : σ.store b2 (e.o + i * 6) [.int .i32 c.Rune, .bool c.Style.Bold, .bool c.Style.Under, .bool c.Style.Turned, .int .i64 c.Style.Fore, .int .i64 c.Style.Back] = some σ12 := by simpa [El.all, eCell, api_Cell.cells] using w2
        have hen : e.n = d.w := by rw [k4.len, k5]
        have hiw : i < d.w := by omega
        simp only [Bool.not_true, cond_false, hg.head.c2, Option.bind_some, dec0, lt_true k6, Bool.and_self, cond_true, Int.toNat_natCast]
        rw [k1, Option.bind_some, k3, Option.bind_some]
        simp only [hen, lt_true hiw, Bool.and_self, cond_true, w1, Option.bind_some, w2']
        rw [p3]
        have hw12 := w4.wide hg.toGridP hw
        rw [w_glyph_Wide_eq hw12, Option.bind_some]
        have hget1 : (d.ls.set j (l.set i c))[j]? = some (l.set i c) := by simp [hj]
        simp only [w3.head.c0, w3.head.c2, Option.bind_some, p4]
        rw [wrap_i64_succ i (by omega)]
        unfold putL
        have one : ∃ σ' d', GridP σ' p d.ls.length d' ∧ Turn σ12 p ⟨d.q, d.els, d.w, d.ls.set j (l.set i c)⟩ σ' d' ∧ d'.w = d.w ∧ d'.ls = d.ls.set j (mend (l.set i c)) ∧
            ((w_cell_Mend ⟨e.b, e.o, e.n⟩ σ12.frz).bind fun q20 => bif (decide ((0 : Int) ≤ (j : Int)) && decide ((j : Int) < (d.q.n : Int))) then
              (d.q.b).bind fun b21 => (Heap.store (Heap.back σ12 q20.2) b21 (d.q.o + (j : Int).toNat * 1) [.slice q20.1.b q20.1.o q20.1.n 6]).bind fun σ22 => some (AVal.tuple [], σ22) else none) = some (AVal.tuple [], σ') := by
          obtain ⟨σ', d', a1, a2, a3, a4, a5⟩ := mend_tail (K := fun v σ => some (v, σ)) w3 hw12 hget1 k2
          exact ⟨σ', d', a1, a2, a3, by rw [a4]; simp, a5⟩
        have fin : ∀ (l1 : List api_Cell) (σ' : Heap) (d' : GD), GridP σ' p d.ls.length d' → Turn σ p d σ' d' → d'.w = d.w → d'.ls = d.ls.set j l1 → Turned σ σ' p d (d.ls.set j l1) := fun l1 σ' d' a1 a2 a3 a4 =>
          ⟨d', ⟨by rw [a4, List.length_set]; exact a1, by rw [a4, List.length_set]; exact hg.h1, by rw [a4, List.length_set]; exact hg.h2⟩, a2, a3, a4⟩
        rw [hen] at one
        obtain ⟨σ1, d1, o1, o2, o3, o4, o5⟩ := one
        rw [dec0, lt_true k6, Int.toNat_natCast] at o5
        simp only [Bool.and_self, cond_true] at o5
        rw [k1] at o5
        rw [w1] at o5
        cases hwr : wide c.Rune with
        | false =>
          simp only [cond_false]
          exact ⟨σ1, by rw [k1]; simpa only [lt_true k6, Bool.and_self, cond_true] using o5, fin _ σ1 d1 o1 (w4.trans o2) o3 o4⟩
        | true =>
          simp only [cond_true]
          by_cases hx : i + 1 < d.w
          · rw [lt_true hx, cond_true, dec0, Bool.and_self, cond_true, if_pos (by omega), Int.toNat_natCast]
            obtain ⟨b3, σ17, v1, v2, v3, v4⟩ := w3.write hget1 k2 (x := i + 1) (ys := [⟨0, c.Style⟩]) (by simp; omega)
            rw [over_one (by simp; omega)] at v3 v4
            have v2' : σ12.store b3 (e.o + (i + 1) * 6) [.int .i32 0, .bool c.Style.Bold, .bool c.Style.Under, .bool c.Style.Turned, .int .i64 c.Style.Fore, .int .i64 c.Style.Back] = some σ17 := by simpa [El.all, eCell, api_Cell.cells] using v2
            rw [w1] at v1
            injection v1 with v1
            subst v1
            rw [v2', Option.bind_some]
            have hw17 := v4.wide w3 hw12
            simp only [List.set_set] at v3 v4
            obtain ⟨σ', d', a1, a2, a3, a4, a5⟩ := mend_tail (K := fun v σ => some (v, σ)) v3 hw17 (y := j) (l := (l.set i c).set (i + 1) ⟨0, c.Style⟩) (by simp [hj]) k2
            simp only [v3.head.c2, Option.bind_some]
            rw [hen, w1, k1, Int.toNat_natCast] at a5
            refine ⟨σ', ?_, fin _ σ' d' a1 ((w4.trans v4).trans a2) a3 (by rw [a4]; simp)⟩
            rw [k1]
            simpa only [dec0, lt_true k6, Bool.and_self, cond_true, Option.bind_some] using a5
          · rw [lt_false hx, cond_false, if_neg (by omega)]
            exact ⟨σ1, by rw [k1]; simpa only [lt_true k6, Bool.and_self, cond_true] using o5, fin _ σ1 d1 o1 (w4.trans o2) o3 o4⟩
  obtain ⟨σ', hc, hT⟩ := go
  obtain ⟨x, hx, hP⟩ := wRel_ex (P := fun v σ' => CallOK Tryd.prog T 64 [tPtr.av (some (p, 0)), (tInt .i64).av x, (tInt .i64).av y, t_api_Cell.av c] σ (tVoid.av v) σ' ∧
    ∀ p1 d1, (some (p, 0) : Pt) = some (p1, 0) → Grid σ p1 d1 → WideOK σ → Turned σ σ' p1 d1 (putG d1.w d1.ls x y c)) (v := ()) (σ := σ')
    ⟨call_ok ok (K_grid_Grid_Put c_grid_Grid_Put ok_cell_Mend ok_cell_Right ok_glyph_Wide ok_grid_Grid_there) (L := 0) (n := 2) hc, fun p1 d1 e g1 _ => by
      obtain rfl := uniq_pt e
      rw [g1.uniq hg]
      exact hT⟩
  exact ⟨x.2, hx, hP.2 p d rfl hg hw⟩
end Go.Abs.TA
namespace Go.Abs.TA
open Go Go.Abs Go.Proofs

/-- Cells of a line are blank. -/
def clearL (l : List api_Cell) (a b : Int) (s : api_Style) : List api_Cell :=
  over l (if 0 > a then 0 else a).toNat (List.replicate ((if (l.length : Int) < b then (l.length : Int) else b).toNat - (if 0 > a then 0 else a).toNat) (blankC s))
def clearG (w : Nat) (ls : List (List api_Cell)) (y a b : Int) (s : api_Style) : List (List api_Cell) :=
  bif thereB 0 y w ls.length then atLine ls y (fun l => mend (clearL l a b s)) else ls
theorem set_self {α : Type} {xs : List α} {j : Nat} {l : α} (h : xs[j]? = some l) : xs.set j l = xs := by
  apply List.ext_getElem?
  intro i
  rw [List.getElem?_set]
  split
  · rename_i e
    subst e
    rw [if_pos (List.getElem?_eq_some_iff.1 h).1, h]
  · rfl
noncomputable def c_grid_Grid_Clear : C_grid_Grid_Clear := { cell_Blank := w_cell_Blank, grid_Grid_there := w_grid_Grid_there, cell_Mend := w_cell_Mend }
theorem GridP.turned {σ σ' : Heap} {p : Nat} {d d' : GD} (g : Grid σ p d) {y : Nat} {l1 : List api_Cell} (a1 : GridP σ' p d.ls.length d') (a2 : Turn σ p d σ' d') (a3 : d'.w = d.w) (a4 : d'.ls = d.ls.set y l1) : Turned σ σ' p d (d.ls.set y l1) :=
  ⟨d', ⟨by rw [a4, List.length_set]; exact a1, by rw [a4, List.length_set]; exact g.h1, by rw [a4, List.length_set]; exact g.h2⟩, a2, a3, a4⟩
theorem Clear_loop {L : Nat} {σ0 : Heap} {p y : Nat} {d : GD} {l : List api_Cell} {s : api_Style} {a : Nat} {b : Int} {B : Nat} (g0 : Grid σ0 p d) (hw0 : WideOK σ0) (hl : d.ls[y]? = some l) (hB : (if (d.w : Int) < b then (d.w : Int) else b).toNat = B) :
    ∀ (k x m : Nat) (σ : Heap), B - x = k → k < m → a ≤ x → x ≤ max a B → GridP σ p d.ls.length ⟨d.q, d.els, d.w, d.ls.set y (over l a (List.replicate (x - a) (blankC s)))⟩ → Turn σ0 p d σ ⟨d.q, d.els, d.w, d.ls.set y (over l a (List.replicate (x - a) (blankC s)))⟩ →
      ∃ σ1 d1, GridP σ1 p d.ls.length d1 ∧ Turn σ0 p d σ1 d1 ∧ d1.w = d.w ∧ d1.ls = d.ls.set y (mend (over l a (List.replicate (B - a) (blankC s)))) ∧
        grid_Grid_Clear_L3 (R := AVal × Heap) c_grid_Grid_Clear L m (some (p, 0)) (y : Int) b (x : Int) s σ (fun v σ => some (v, σ)) = some (.tuple [], σ1)
  | k, x, 0, _, _, h, _, _, _, _ => by omega
  | k, x, m + 1, σ, hk, hm, hax, hxB, g, t => by
    have hy := (List.getElem?_eq_some_iff.1 hl).1
    have hw1 := g0.w1
    have hw2 := g0.w2
    have hh2 := g0.h2
    have hlw := g0.wide l (List.mem_of_getElem? hl)
    have hBw : B ≤ d.w := by rw [← hB]; split <;> omega
    have hbd : ∀ x : Nat, decide ((x : Int) < (if (d.w : Int) < b then (d.w : Int) else b)) = decide (x < B) := fun x => by
      rw [Bool.eq_iff_iff, decide_eq_true_eq, decide_eq_true_eq, ← hB]
      split <;> omega
    have hw := t.wide g0.toGridP hw0
    have p1 : c_grid_Grid_Clear.cell_Blank = w_cell_Blank := rfl
    have p2 : c_grid_Grid_Clear.cell_Mend = w_cell_Mend := rfl
    have hget : (d.ls.set y (over l a (List.replicate (x - a) (blankC s))))[y]? = some (over l a (List.replicate (x - a) (blankC s))) := by simp [hy]
    obtain ⟨b1, e, k1, k2, k3, k4, k5, k6, k7⟩ := g.line_at (i := y) hget
    have k1 : d.q.b = some b1 := k1
    have k3 : slice? (σ.cell? b1 (d.q.o + y * 1)) 6 = some (e.b, e.o, e.n) := k3
    have k6 : y < d.q.n := k6
    rw [grid_Grid_Clear_L3_eq]
    simp only [Option.bind_some, g.head.c0]
    rw [hbd]
    by_cases hx : x < B
    · rw [decide_eq_true hx, cond_true]
      obtain ⟨b2, σ', w1, w2, w3, w4⟩ := g.write hget k2 (x := x) (ys := [blankC s]) (by simp only [List.length_singleton]; simp only at k5; omega)
      simp only [List.set_set] at w3 w4
      have hov : over (over l a (List.replicate (x - a) (blankC s))) x [blankC s] = over l a (List.replicate (x + 1 - a) (blankC s)) := by
        apply List.ext_getElem?
        intro j
        rw [over_get (by simp only [List.length_singleton]; simp only at k5; omega), over_get (by simp; omega), over_get (by simp; omega)]
        simp only [List.length_singleton, List.length_replicate]
        by_cases c1 : j < x
        · rw [if_pos c1]
          by_cases c2 : j < a
          · rw [if_pos c2, if_pos c2]
          · rw [if_neg c2, if_neg c2, if_pos (by omega), if_pos (by omega), List.getElem?_replicate, List.getElem?_replicate, if_pos (by omega), if_pos (by omega)]
        · rw [if_neg c1]
          by_cases c3 : j < x + 1
          · rw [if_pos c3, if_neg (show ¬ j < a by omega), if_pos (by omega), List.getElem?_replicate, if_pos (by omega), show j - x = 0 by omega]
            rfl
          · rw [if_neg c3, if_neg (show ¬ j < a by omega), if_neg (by omega), if_neg (show ¬ j < a by omega), if_neg (by omega)]
      rw [hov] at w3 w4
      have w2' : σ.store b2 (e.o + x * 6) [.int .i32 32, .bool false, .bool false, .bool false, .int .i64 0, .int .i64 s.Back] = some σ' := by simpa [El.all, eCell, api_Cell.cells, blankC] using w2
      have hen : e.n = d.w := by rw [k4.len]; exact k5
      simp only [g.head.c2, Option.bind_some, dec0, lt_true k6, Bool.and_self, cond_true, Int.toNat_natCast, k1, k3, p1, w_cell_Blank, Heap.back_frz, hen, lt_true (show x < d.w by omega), w1, w2']
      rw [wrap_i64_succ x (by omega)]
      have := Clear_loop (L := L) (b := b) g0 hw0 hl hB (k - 1) (x + 1) m σ' (by omega) (by omega) (by omega) (by omega) w3 (t.trans w4)
      exact this
    · rw [decide_eq_false hx, cond_false]
      obtain ⟨σ', d', a1, a2, a3, a4, a5⟩ := mend_tail (K := fun v σ => some (v, σ)) g hw hget k2
      have hov : over l a (List.replicate (x - a) (blankC s)) = over l a (List.replicate (B - a) (blankC s)) := by
        rw [show x - a = B - a by omega]
      simp only [List.set_set] at a4
      rw [hov] at a4
      refine ⟨σ', d', a1, t.trans a2, a3, a4, ?_⟩
      simp only [g.head.c2, Option.bind_some, dec0, lt_true k6, Bool.and_self, cond_true, Int.toNat_natCast, k1, k3, p2]
      simp only [dec0, lt_true k6, Bool.and_self, cond_true, Int.toNat_natCast, k1] at a5
      exact a5
noncomputable def w_grid_Grid_Clear (g : Pt) (y a b : Int) (s : api_Style) (σ : Heap) : Option (Unit × Heap) :=
  wRel fun v σ' => CallOK Tryd.prog T 72 [tPtr.av g, (tInt .i64).av y, (tInt .i64).av a, (tInt .i64).av b, t_api_Style.av s] σ (tVoid.av v) σ' ∧
    ∀ p d, g = some (p, 0) → Grid σ p d → WideOK σ → Turned σ σ' p d (clearG d.w d.ls y a b s)
theorem ok_grid_Grid_Clear : Ok_grid_Grid_Clear w_grid_Grid_Clear := fun _ _ _ _ _ _ _ _ h => (wRel_some h).1
theorem w_grid_Grid_Clear_ex {p : Nat} {d : GD} {σ : Heap} (hg : Grid σ p d) (hw : WideOK σ) (y a b : Int) (s : api_Style) : ∃ σ', w_grid_Grid_Clear (some (p, 0)) y a b s σ = some ((), σ') ∧ Turned σ σ' p d (clearG d.w d.ls y a b s) := by
  have p1 : c_grid_Grid_Clear.grid_Grid_there = w_grid_Grid_there := rfl
  have go : ∃ σ', callC (R := AVal × Heap) T (O_grid_Grid_Clear c_grid_Grid_Clear) 100 2 72 [.ptr (some (p, 0)), .int .i64 y, .int .i64 a, .int .i64 b, .agg [.bool s.Bold, .bool s.Under, .bool s.Turned, .int .i64 s.Fore, .int .i64 s.Back]] σ (fun v σ => some (v, σ)) = some (.tuple [], σ') ∧ Turned σ σ' p d (clearG d.w d.ls y a b s) := by
    rw [grid_Grid_Clear_eq, p1, w_grid_Grid_there_eq hg.head.row, Option.bind_some]
    unfold clearG
    cases ht : thereB 0 y d.w d.ls.length with
    | false => exact ⟨σ, rfl, Turned.refl hg⟩
    | true =>
      dsimp only
      rw [Bool.not_true, cond_false, cond_true]
      obtain ⟨_, h2, h3, h4⟩ := thereB_iff.1 ht
      obtain ⟨j, rfl⟩ := Int.eq_ofNat_of_zero_le h2
      have hj : j < d.ls.length := by omega
      have hlj := List.getElem?_eq_getElem hj
      rw [atLine_nat hlj]
      generalize d.ls[j] = l at hlj ⊢
      have hlw := hg.wide l (List.mem_of_getElem? hlj)
      have hw2 := hg.w2
      obtain ⟨A, eA⟩ : ∃ A : Nat, (if (0 : Int) > a then 0 else a) = (A : Int) := ⟨(if (0 : Int) > a then 0 else a).toNat, by split <;> omega⟩
      rw [eA]
      have hbB : (if (d.w : Int) < b then (d.w : Int) else b).toNat ≤ d.w := by split <;> omega
      have hset : d.ls.set j (over l A (List.replicate (A - A) (blankC s))) = d.ls := by
        rw [Nat.sub_self, List.replicate_zero, over_nil, set_self hlj]
      obtain ⟨σ1, d1, c1, c2, c3, c4, c5⟩ := Clear_loop (L := 100) (a := A) (b := b) (s := s) hg hw hlj rfl _ A 100 σ rfl (by omega) (Nat.le_refl _) (by omega) (by rw [hset]; exact hg.toGridP) (by rw [hset]; exact Turn.refl)
      refine ⟨σ1, c5, GridP.turned hg c1 c2 c3 ?_⟩
      rw [c4]
      unfold clearL
      rw [eA, hlw]
      rfl
  obtain ⟨σ', hc, hT⟩ := go
  obtain ⟨x, hx, hP⟩ := wRel_ex (P := fun v σ' => CallOK Tryd.prog T 72 [tPtr.av (some (p, 0)), (tInt .i64).av y, (tInt .i64).av a, (tInt .i64).av b, t_api_Style.av s] σ (tVoid.av v) σ' ∧
    ∀ p1 d1, (some (p, 0) : Pt) = some (p1, 0) → Grid σ p1 d1 → WideOK σ → Turned σ σ' p1 d1 (clearG d1.w d1.ls y a b s)) (v := ()) (σ := σ')
    ⟨call_ok ok (K_grid_Grid_Clear c_grid_Grid_Clear ok_cell_Mend ok_cell_Blank ok_grid_Grid_there) (L := 100) (n := 2) hc, fun p1 d1 e g1 _ => by
      obtain rfl := uniq_pt e
      rw [g1.uniq hg]
      exact hT⟩
  exact ⟨x.2, hx, hP.2 p d rfl hg hw⟩
end Go.Abs.TA
namespace Go.Abs.TA
open Go Go.Abs Go.Proofs

/-- How many cells come in, go out. -/
def cutN (w : Nat) (x n : Int) : Int := if IntKind.i64.wrap ((w : Int) - x) < (if 0 > n then 0 else n) then IntKind.i64.wrap ((w : Int) - x) else if 0 > n then 0 else n
theorem cutN_nat {w i : Nat} (n : Int) (h : i < w) (hw : w ≤ 60) : ∃ m : Nat, i + m ≤ w ∧ cutN w (i : Int) n = (m : Int) := by
  unfold cutN
  rw [wrap_i64_of (by omega) (by omega)]
  refine ⟨(if (w : Int) - (i : Int) < (if 0 > n then 0 else n) then (w : Int) - (i : Int) else if 0 > n then 0 else n).toNat, ?_, ?_⟩ <;> (split <;> split <;> omega)
/-- Blank cells come in. -/
def openL (l : List api_Cell) (x m : Nat) : List api_Cell := over l (x + m) ((l.drop x).take (l.length - (x + m)))
def openG (w : Nat) (ls : List (List api_Cell)) (x y n : Int) (s : api_Style) : List (List api_Cell) :=
  bif thereB x y w ls.length then clearG w (atLine ls y (fun l => openL l x.toNat (cutN w x n).toNat)) y x (x + cutN w x n) s else ls
/-- Cells go out. -/
def shutL (l : List api_Cell) (x m : Nat) : List api_Cell := over l x (l.drop (x + m))
def shutG (w : Nat) (ls : List (List api_Cell)) (x y n : Int) (s : api_Style) : List (List api_Cell) :=
  bif thereB x y w ls.length then clearG w (atLine ls y (fun l => shutL l x.toNat (cutN w x n).toNat)) y ((w : Int) - cutN w x n) w s else ls
theorem Turned.trans {σ σ' σ'' : Heap} {p : Nat} {d d' : GD} {ls'' : List (List api_Cell)} (t : Turn σ p d σ' d') (hw : d'.w = d.w) (k : Turned σ' σ'' p d' ls'') : Turned σ σ'' p d ls'' := by
  obtain ⟨d'', g, t', e1, e2⟩ := k
  exact ⟨d'', g, t.trans t', e1.trans hw, e2⟩
/-! Open -/
noncomputable def c_grid_Grid_Open : C_grid_Grid_Open := { grid_Grid_there := w_grid_Grid_there, grid_Grid_Clear := w_grid_Grid_Clear }
noncomputable def w_grid_Grid_Open (g : Pt) (x y n : Int) (s : api_Style) (σ : Heap) : Option (Unit × Heap) :=
  wRel fun v σ' => CallOK Tryd.prog T 73 [tPtr.av g, (tInt .i64).av x, (tInt .i64).av y, (tInt .i64).av n, t_api_Style.av s] σ (tVoid.av v) σ' ∧
    ∀ p d, g = some (p, 0) → Grid σ p d → WideOK σ → Turned σ σ' p d (openG d.w d.ls x y n s)
theorem ok_grid_Grid_Open : Ok_grid_Grid_Open w_grid_Grid_Open := fun _ _ _ _ _ _ _ _ h => (wRel_some h).1
theorem w_grid_Grid_Open_ex {p : Nat} {d : GD} {σ : Heap} (hg : Grid σ p d) (hw : WideOK σ) (x y n : Int) (s : api_Style) : ∃ σ', w_grid_Grid_Open (some (p, 0)) x y n s σ = some ((), σ') ∧ Turned σ σ' p d (openG d.w d.ls x y n s) := by
  have p1 : c_grid_Grid_Open.grid_Grid_there = w_grid_Grid_there := rfl
  have p2 : c_grid_Grid_Open.grid_Grid_Clear = w_grid_Grid_Clear := rfl
  have go : ∃ σ', callC (R := AVal × Heap) T (O_grid_Grid_Open c_grid_Grid_Open) 0 2 73 [.ptr (some (p, 0)), .int .i64 x, .int .i64 y, .int .i64 n, .agg [.bool s.Bold, .bool s.Under, .bool s.Turned, .int .i64 s.Fore, .int .i64 s.Back]] σ (fun v σ => some (v, σ)) = some (.tuple [], σ') ∧ Turned σ σ' p d (openG d.w d.ls x y n s) := by
    rw [grid_Grid_Open_eq, p1, w_grid_Grid_there_eq hg.head.row, Option.bind_some]
    unfold openG
    cases ht : thereB x y d.w d.ls.length with
    | false => exact ⟨σ, rfl, Turned.refl hg⟩
    | true =>
      dsimp only
      rw [Bool.not_true, cond_false, cond_true]
      obtain ⟨h1, h2, h3, h4⟩ := thereB_iff.1 ht
      obtain ⟨i, rfl⟩ := Int.eq_ofNat_of_zero_le h1
      obtain ⟨j, rfl⟩ := Int.eq_ofNat_of_zero_le h2
      have hj : j < d.ls.length := by omega
      have hi : i < d.w := by omega
      have hlj := List.getElem?_eq_getElem hj
      have hw2 := hg.w2
      obtain ⟨m, hm, em⟩ := cutN_nat n hi hw2
      obtain ⟨b, e, k1, k2, k3, k4, k5, k6, k7⟩ := hg.line_at hlj
      rw [atLine_nat hlj, em, Int.toNat_natCast, Int.toNat_natCast]
      have ecut : (if IntKind.i64.wrap ((d.w : Int) - (i : Int)) < (if 0 > n then 0 else n) then IntKind.i64.wrap ((d.w : Int) - (i : Int)) else if 0 > n then 0 else n) = (m : Int) := em
      simp only [hg.head.c0, Option.bind_some, ecut]
      have eadd : IntKind.i64.wrap ((i : Int) + (m : Int)) = ((i + m : Nat) : Int) := by rw [show (i : Int) + (m : Int) = ((i + m : Nat) : Int) by omega, wrap_i64_nat _ (by omega)]
      rw [eadd]
      generalize d.ls[j] = l at hlj k4 k5 ⊢
      have hen : e.n = d.w := by rw [k4.len, k5]
      obtain ⟨b2, σ', w1, w2, w3, w4⟩ := hg.write hlj k2 (x := i + m) (ys := (l.drop i).take (l.length - (i + m))) (by simp; omega)
      have hrd : σ.read (some b2) (e.o + i * 6) (min (d.w - i) (d.w - (i + m))) 6 = some (eCell.all ((l.drop i).take (l.length - (i + m)))) := by
        have := ((k4.is (by omega)).drop (k := i) (by omega)).readn (m := l.length - (i + m)) (by simp; omega)
        rw [show min (d.w - i) (d.w - (i + m)) = l.length - (i + m) by omega, ← w1]
        exact this
      simp only [hg.head.c2, Option.bind_some, dec0, lt_true k6, Bool.and_self, cond_true, Int.toNat_natCast, k1, k3, hen]
      rw [show decide (((i + m : Nat) : Int) ≤ (d.w : Int)) = true by simp; omega, show decide ((d.w : Int) ≤ (d.w : Int)) = true by simp, show decide ((i : Int) ≤ (d.w : Int)) = true by simp; omega]
      simp only [Bool.and_self, cond_true, w1]
      rw [hrd, Option.bind_some]
      simp only [w2, Option.bind_some, p2]
      have g1 : Grid σ' p ⟨d.q, d.els, d.w, d.ls.set j (openL l i m)⟩ := ⟨by rw [List.length_set]; exact w3, by rw [List.length_set]; exact hg.h1, by rw [List.length_set]; exact hg.h2⟩
      obtain ⟨σ2, c1, c2⟩ := w_grid_Grid_Clear_ex g1 (w4.wide hg.toGridP hw) (j : Int) (i : Int) ((i + m : Nat) : Int) s
      rw [c1]
      refine ⟨σ2, rfl, Turned.trans w4 rfl ?_⟩
      rw [show (i : Int) + (m : Int) = ((i + m : Nat) : Int) by omega]
      exact c2
  obtain ⟨σ', hc, hT⟩ := go
  obtain ⟨x, hx, hP⟩ := wRel_ex (P := fun v σ' => CallOK Tryd.prog T 73 [tPtr.av (some (p, 0)), (tInt .i64).av x, (tInt .i64).av y, (tInt .i64).av n, t_api_Style.av s] σ (tVoid.av v) σ' ∧
    ∀ p1 d1, (some (p, 0) : Pt) = some (p1, 0) → Grid σ p1 d1 → WideOK σ → Turned σ σ' p1 d1 (openG d1.w d1.ls x y n s)) (v := ()) (σ := σ')
    ⟨call_ok ok (K_grid_Grid_Open c_grid_Grid_Open ok_grid_Grid_there ok_grid_Grid_Clear) (L := 0) (n := 2) hc, fun p1 d1 e g1 _ => by
      obtain rfl := uniq_pt e
      rw [g1.uniq hg]
      exact hT⟩
  exact ⟨x.2, hx, hP.2 p d rfl hg hw⟩
/-! Shut -/
noncomputable def c_grid_Grid_Shut : C_grid_Grid_Shut := { grid_Grid_there := w_grid_Grid_there, grid_Grid_Clear := w_grid_Grid_Clear }
noncomputable def w_grid_Grid_Shut (g : Pt) (x y n : Int) (s : api_Style) (σ : Heap) : Option (Unit × Heap) :=
  wRel fun v σ' => CallOK Tryd.prog T 74 [tPtr.av g, (tInt .i64).av x, (tInt .i64).av y, (tInt .i64).av n, t_api_Style.av s] σ (tVoid.av v) σ' ∧
    ∀ p d, g = some (p, 0) → Grid σ p d → WideOK σ → Turned σ σ' p d (shutG d.w d.ls x y n s)
theorem ok_grid_Grid_Shut : Ok_grid_Grid_Shut w_grid_Grid_Shut := fun _ _ _ _ _ _ _ _ h => (wRel_some h).1
theorem w_grid_Grid_Shut_ex {p : Nat} {d : GD} {σ : Heap} (hg : Grid σ p d) (hw : WideOK σ) (x y n : Int) (s : api_Style) : ∃ σ', w_grid_Grid_Shut (some (p, 0)) x y n s σ = some ((), σ') ∧ Turned σ σ' p d (shutG d.w d.ls x y n s) := by
  have p1 : c_grid_Grid_Shut.grid_Grid_there = w_grid_Grid_there := rfl
  have p2 : c_grid_Grid_Shut.grid_Grid_Clear = w_grid_Grid_Clear := rfl
  have go : ∃ σ', callC (R := AVal × Heap) T (O_grid_Grid_Shut c_grid_Grid_Shut) 0 2 74 [.ptr (some (p, 0)), .int .i64 x, .int .i64 y, .int .i64 n, .agg [.bool s.Bold, .bool s.Under, .bool s.Turned, .int .i64 s.Fore, .int .i64 s.Back]] σ (fun v σ => some (v, σ)) = some (.tuple [], σ') ∧ Turned σ σ' p d (shutG d.w d.ls x y n s) := by
    rw [grid_Grid_Shut_eq, p1, w_grid_Grid_there_eq hg.head.row, Option.bind_some]
    unfold shutG
    cases ht : thereB x y d.w d.ls.length with
    | false => exact ⟨σ, rfl, Turned.refl hg⟩
    | true =>
      dsimp only
      rw [Bool.not_true, cond_false, cond_true]
      obtain ⟨h1, h2, h3, h4⟩ := thereB_iff.1 ht
      obtain ⟨i, rfl⟩ := Int.eq_ofNat_of_zero_le h1
      obtain ⟨j, rfl⟩ := Int.eq_ofNat_of_zero_le h2
      have hj : j < d.ls.length := by omega
      have hi : i < d.w := by omega
      have hlj := List.getElem?_eq_getElem hj
      have hw2 := hg.w2
      obtain ⟨m, hm, em⟩ := cutN_nat n hi hw2
      obtain ⟨b, e, k1, k2, k3, k4, k5, k6, k7⟩ := hg.line_at hlj
      rw [atLine_nat hlj, em, Int.toNat_natCast, Int.toNat_natCast]
      have ecut : (if IntKind.i64.wrap ((d.w : Int) - (i : Int)) < (if 0 > n then 0 else n) then IntKind.i64.wrap ((d.w : Int) - (i : Int)) else if 0 > n then 0 else n) = (m : Int) := em
      simp only [hg.head.c0, Option.bind_some, ecut]
      have eadd : IntKind.i64.wrap ((i : Int) + (m : Int)) = ((i + m : Nat) : Int) := by rw [show (i : Int) + (m : Int) = ((i + m : Nat) : Int) by omega, wrap_i64_nat _ (by omega)]
      rw [eadd]
      generalize d.ls[j] = l at hlj k4 k5 ⊢
      have hen : e.n = d.w := by rw [k4.len, k5]
      obtain ⟨b2, σ', w1, w2, w3, w4⟩ := hg.write hlj k2 (x := i) (ys := l.drop (i + m)) (by simp; omega)
      have hrd : σ.read (some b2) (e.o + (i + m) * 6) (min (d.w - (i + m)) (d.w - i)) 6 = some (eCell.all (l.drop (i + m))) := by
        have := ((k4.is (by omega)).drop (k := i + m) (by omega)).readn (m := l.length - (i + m)) (by simp)
        rw [show min (d.w - (i + m)) (d.w - i) = l.length - (i + m) by omega, ← w1]
        rw [List.take_of_length_le (by simp)] at this
        exact this
      simp only [hg.head.c2, Option.bind_some, dec0, lt_true k6, Bool.and_self, cond_true, Int.toNat_natCast, k1, k3, hen]
      rw [show decide (((i + m : Nat) : Int) ≤ (d.w : Int)) = true by simp; omega, show decide ((d.w : Int) ≤ (d.w : Int)) = true by simp, show decide ((i : Int) ≤ (d.w : Int)) = true by simp; omega]
      simp only [Bool.and_self, cond_true, w1]
      rw [hrd, Option.bind_some]
      have hh := w3.head
      have hc0 := hh.c0
      simp only [w2, Option.bind_some, p2, hc0]
      have g1 : Grid σ' p ⟨d.q, d.els, d.w, d.ls.set j (shutL l i m)⟩ := ⟨by rw [List.length_set]; exact w3, by rw [List.length_set]; exact hg.h1, by rw [List.length_set]; exact hg.h2⟩
      have esub : IntKind.i64.wrap ((d.w : Int) - (m : Int)) = (d.w : Int) - (m : Int) := wrap_i64_of (by omega) (by omega)
      rw [esub]
      obtain ⟨σ2, c1, c2⟩ := w_grid_Grid_Clear_ex g1 (w4.wide hg.toGridP hw) (j : Int) ((d.w : Int) - (m : Int)) (d.w : Int) s
      rw [c1]
      exact ⟨σ2, rfl, Turned.trans w4 rfl c2⟩
  obtain ⟨σ', hc, hT⟩ := go
  obtain ⟨x, hx, hP⟩ := wRel_ex (P := fun v σ' => CallOK Tryd.prog T 74 [tPtr.av (some (p, 0)), (tInt .i64).av x, (tInt .i64).av y, (tInt .i64).av n, t_api_Style.av s] σ (tVoid.av v) σ' ∧
    ∀ p1 d1, (some (p, 0) : Pt) = some (p1, 0) → Grid σ p1 d1 → WideOK σ → Turned σ σ' p1 d1 (shutG d1.w d1.ls x y n s)) (v := ()) (σ := σ')
    ⟨call_ok ok (K_grid_Grid_Shut c_grid_Grid_Shut ok_grid_Grid_there ok_grid_Grid_Clear) (L := 0) (n := 2) hc, fun p1 d1 e g1 _ => by
      obtain rfl := uniq_pt e
      rw [g1.uniq hg]
      exact hT⟩
  exact ⟨x.2, hx, hP.2 p d rfl hg hw⟩
end Go.Abs.TA
