/-
What the abstract memory says of a world; what a step may change.
-/
import Derived.Test.YtcfohnfnajfahaaDoorAbs2
namespace Go.Abs
open Go

def Blk.live : Blk → Bool | .row _ .dead => false | _ => true
def Blk.isRW : Blk → Bool | .row _ .rw => true | .map _ => true | _ => false
def Blk.isRO : Blk → Bool | .row _ .ro => true | _ => false
theorem Blk.live_of_isRW {x : Blk} (h : x.isRW = true) : x.live = true := by
  cases x with
  | row cs m => cases m <;> simp_all [Blk.isRW, Blk.live]
  | map es => rfl
theorem Blk.live_cases {x : Blk} (h : x.live = true) : x.isRW = true ∨ x.isRO = true := by
  cases x with
  | row cs m => cases m <;> simp_all [Blk.isRW, Blk.live, Blk.isRO]
  | map es => exact .inl rfl

def Unfrozen (fr : Nat × Nat) (n : Nat) : Prop := ∀ j, j < n → ¬ (fr.1 ≤ j ∧ j < fr.2)
abbrev noL : Lp := fun _ => none
/-- All are values that a cell can hold. -/
def Ones (c : Array Value) : Prop := ∀ v ∈ c.toList, v.oneCell' = true

/-- Cells that can be written are all one cell each; of others those that are known. -/
def OnesAt (m : Mode) (c : Array Value) (off n : Nat) : Prop :=
  match m with
  | .rw => Ones c
  | _ => ∀ j, j < n → ∀ v, c[off + j]? = some v → v.oneCell' = true
theorem OnesAt.win {m : Mode} {c : Array Value} {off n : Nat} (h : OnesAt m c off n) : ∀ j, j < n → ∀ v, c[off + j]? = some v → v.oneCell' = true := by
  cases m with
  | rw => exact fun j _ v hv => h v (List.mem_of_getElem? (by rw [Array.getElem?_toList]; exact hv))
  | ro => exact h
  | dead => exact h

def BRel (ρ : Mp) (pl : Pl) (w : World) : Blk → Prop
  | .row _ .dead => True
  | .row cs m => ∃ c ty fr, w.heap[pl.blk]? = some (.cells c ty fr) ∧ c.size = pl.size ∧ pl.off + cs.length ≤ c.size ∧
      (∀ j x, cs[j]? = some x → ∃ v, c[pl.off + j]? = some v ∧ VRel ρ noL x v) ∧ (m = .rw → Unfrozen fr c.size) ∧ OnesAt m c pl.off cs.length
  | .map es => ∃ (es' : Array MapEntry) (clock : Nat), w.heap[pl.blk]? = some (.map es' clock) ∧ es'.size = es.length ∧
      ∀ (j : Nat) (k v : AVal), es[j]? = some (k, v) → ∃ me, es'[j]? = some me ∧ VRel ρ noL k me.key ∧ VRel ρ noL v me.val

structure HRel (ρ : Mp) (σ : Heap) (w : World) : Prop where
  blk : ∀ b pl, ρ b = some pl → ∃ x, σ[b]? = some x ∧ BRel ρ pl w x
  dis : ∀ b b' pl pl' x x', ρ b = some pl → ρ b' = some pl' → σ[b]? = some x → σ[b']? = some x' → b ≠ b' → x.live = true → x'.live = true → x.isRW = true → pl.blk ≠ pl'.blk

def LOne (ρ : Mp) (k : Nat) (w : World) : LBlk → Prop
  | .none => False
  | .cells cs => ∃ c ty fr, w.heap[k]? = some (.cells c ty fr) ∧ Unfrozen fr c.size ∧ VRels ρ noL cs c.toList ∧ Ones c
  | .iter s p => w.heap[k]? = some (.stringIter s p)
  | .fcells cs => ∃ c ty fr, w.heap[k]? = some (.cells c ty fr) ∧ Unfrozen fr c.size ∧ VRels ρ noL cs c.toList ∧ Ones c
  | .fiter s p => w.heap[k]? = some (.stringIter s p)

def LBlk.isRO : LBlk → Bool | .fcells _ => true | .fiter _ _ => true | _ => false

structure LRel (ρ : Mp) (lm : Lp) (l : Locs) (σ : Heap) (w : World) : Prop where
  loc : ∀ t k, lm t = some k → k < w.heap.size ∧ LOne ρ k w (l.getD t .none)
  inj : ∀ t t' k, lm t = some k → lm t' = some k → t = t'
  apart : ∀ t k b pl x, lm t = some k → ρ b = some pl → σ[b]? = some x → x.live = true → pl.blk ≠ k

structure Step (ρ : Mp) (lm : Lp) (l : Locs) (σ : Heap) (w : World) (ρ' : Mp) (lm' : Lp) (l' : Locs) (σ' : Heap) (w' : World) : Prop where
  os : w'.os = w.os
  tape : w'.tape = w.tape
  output : w'.output = w.output
  size : w.heap.size ≤ w'.heap.size
  len : σ.length ≤ σ'.length
  ext : ∀ b pl, ρ b = some pl → ρ' b = some pl
  new : ∀ b, ρ b = none → ρ' b ≠ none → σ.length ≤ b
  unch : ∀ k, k < w.heap.size → (∀ b pl x, ρ b = some pl → σ[b]? = some x → x.isRW = true → pl.blk ≠ k) → (∀ t, lm t = some k → (l.getD t .none).isRO = true) → w'.heap[k]? = w.heap[k]?
  prov : ∀ b pl x, ρ' b = some pl → σ'[b]? = some x → x.isRW = true → w.heap.size ≤ pl.blk ∨ ∃ b0 pl0 x0, ρ b0 = some pl0 ∧ σ[b0]? = some x0 ∧ x0.isRW = true ∧ pl0.blk = pl.blk
  ro : ∀ (b : Nat) (x : Blk), σ[b]? = some x → x.isRO = true → σ'[b]? = some x
  rob : ∀ (b : Nat) (x : Blk), σ'[b]? = some x → x.isRO = true → σ[b]? = some x
  lprov : ∀ t k, lm' t = some k → (l'.getD t .none).isRO = false → w.heap.size ≤ k ∨ ∃ t0, lm t0 = some k ∧ (l.getD t0 .none).isRO = false

theorem Step.refl (ρ : Mp) (lm : Lp) (l : Locs) (σ : Heap) (w : World) : Step ρ lm l σ w ρ lm l σ w :=
  ⟨rfl, rfl, rfl, Nat.le_refl _, Nat.le_refl _, fun _ _ h => h, fun _ h h' => absurd h h', fun _ _ _ _ => rfl,
    fun b pl x h hx hr => .inr ⟨b, pl, x, h, hx, hr, rfl⟩, fun _ _ h _ => h, fun _ _ h _ => h, fun t _ h h2 => .inr ⟨t, h, h2⟩⟩

theorem Step.trans {ρ ρ' ρ'' : Mp} {lm lm' lm'' : Lp} {l l' l'' : Locs} {σ σ' σ'' : Heap} {w w' w'' : World} (h : Step ρ lm l σ w ρ' lm' l' σ' w') (k : Step ρ' lm' l' σ' w' ρ'' lm'' l'' σ'' w'') : Step ρ lm l σ w ρ'' lm'' l'' σ'' w'' where
  os := k.os.trans h.os
  tape := k.tape.trans h.tape
  output := k.output.trans h.output
  size := Nat.le_trans h.size k.size
  len := Nat.le_trans h.len k.len
  ext := fun b pl hb => k.ext b pl (h.ext b pl hb)
  new := fun b h0 h2 => by
    cases h1 : ρ' b with
    | none => exact Nat.le_trans h.len (k.new b h1 h2)
    | some pl => exact h.new b h0 (by rw [h1]; simp)
  unch := fun i hi h1 h2 => by
    rw [k.unch i (Nat.lt_of_lt_of_le hi h.size) (fun b pl x hb hx hr he => ?_) (fun t ht => ?_), h.unch i hi h1 h2]
    · rcases h.prov b pl x hb hx hr with hp | ⟨b0, pl0, x0, g1, g2, g3, g4⟩
      · omega
      · exact h1 b0 pl0 x0 g1 g2 g3 (g4.trans he)
    · cases hro : (l'.getD t .none).isRO with
      | true => rfl
      | false =>
        rcases h.lprov t i ht hro with hp | ⟨t0, ht0, hr0⟩
        · omega
        · rw [h2 t0 ht0] at hr0; cases hr0
  prov := fun b pl x hb hx hr => by
    rcases k.prov b pl x hb hx hr with hp | ⟨b0, pl0, x0, g1, g2, g3, g4⟩
    · exact .inl (Nat.le_trans h.size hp)
    · rcases h.prov b0 pl0 x0 g1 g2 g3 with hp | ⟨b1, pl1, x1, q1, q2, q3, q4⟩
      · exact .inl (g4 ▸ hp)
      · exact .inr ⟨b1, pl1, x1, q1, q2, q3, q4.trans g4⟩
  ro := fun b x hb hr => k.ro b x (h.ro b x hb hr) hr
  rob := fun b x hb hr => h.rob b x (k.rob b x hb hr) hr
  lprov := fun t i ht hr => by
    rcases k.lprov t i ht hr with hp | ⟨t0, ht0, hr0⟩
    · exact .inl (Nat.le_trans h.size hp)
    · exact h.lprov t0 i ht0 hr0

theorem BRel.mono {ρ ρ' : Mp} {pl : Pl} {w w' : World} {x : Blk} (hr : ∀ b pl, ρ b = some pl → ρ' b = some pl) (hw : x.live = true → w'.heap[pl.blk]? = w.heap[pl.blk]?) (h : BRel ρ pl w x) : BRel ρ' pl w' x := by
  cases x with
  | row cs m =>
    cases m with
    | dead => trivial
    | ro =>
      obtain ⟨c, ty, fr, h1, h2, h3, h4, h5⟩ := h
      exact ⟨c, ty, fr, (hw rfl).trans h1, h2, h3, fun j x hx => let ⟨v, e, r⟩ := h4 j x hx; ⟨v, e, r.mono hr (fun _ _ h => h)⟩, h5⟩
    | rw =>
      obtain ⟨c, ty, fr, h1, h2, h3, h4, h5⟩ := h
      exact ⟨c, ty, fr, (hw rfl).trans h1, h2, h3, fun j x hx => let ⟨v, e, r⟩ := h4 j x hx; ⟨v, e, r.mono hr (fun _ _ h => h)⟩, h5⟩
  | map es =>
    obtain ⟨es', cl, h1, h2, h3⟩ := h
    exact ⟨es', cl, (hw rfl).trans h1, h2, fun j k v hx => let ⟨me, e, r1, r2⟩ := h3 j k v hx; ⟨me, e, r1.mono hr (fun _ _ h => h), r2.mono hr (fun _ _ h => h)⟩⟩

theorem LOne.mono {ρ ρ' : Mp} {k : Nat} {w w' : World} {x : LBlk} (hr : ∀ b pl, ρ b = some pl → ρ' b = some pl) (hw : w'.heap[k]? = w.heap[k]?) (h : LOne ρ k w x) : LOne ρ' k w' x := by
  cases x with
  | none => exact h
  | cells cs =>
    obtain ⟨c, ty, fr, h1, h2, h3, h4⟩ := h
    exact ⟨c, ty, fr, hw.trans h1, h2, h3.mono hr (fun _ _ h => h), h4⟩
  | iter s p => exact hw.trans h
  | fcells cs =>
    obtain ⟨c, ty, fr, h1, h2, h3, h4⟩ := h
    exact ⟨c, ty, fr, hw.trans h1, h2, h3.mono hr (fun _ _ h => h), h4⟩
  | fiter s p => exact hw.trans h

/-- A live block's place is a block of the world. -/
theorem BRel.lt {ρ : Mp} {pl : Pl} {w : World} {x : Blk} (h : BRel ρ pl w x) (hl : x.live = true) : pl.blk < w.heap.size := by
  cases x with
  | row cs m =>
    cases m with
    | dead => simp [Blk.live] at hl
    | ro => obtain ⟨c, ty, fr, h1, _⟩ := h; exact (Array.getElem?_eq_some_iff.1 h1).1
    | rw => obtain ⟨c, ty, fr, h1, _⟩ := h; exact (Array.getElem?_eq_some_iff.1 h1).1
  | map es => obtain ⟨es', cl, h1, _⟩ := h; exact (Array.getElem?_eq_some_iff.1 h1).1

def upd {α : Type} (g : Nat → Option α) (b : Nat) (x : α) : Nat → Option α := fun c => if c = b then some x else g c
theorem upd_same {α : Type} (g : Nat → Option α) (b : Nat) (x : α) : upd g b x b = some x := by simp [upd]
theorem upd_ne {α : Type} (g : Nat → Option α) {b c : Nat} (x : α) (h : c ≠ b) : upd g b x c = g c := by simp [upd, h]
theorem upd_ext {α : Type} {g : Nat → Option α} {b : Nat} (x : α) (h : g b = none) : ∀ c y, g c = some y → upd g b x c = some y := by
  intro c y hc
  by_cases e : c = b
  · subst e; rw [h] at hc; cases hc
  · rw [upd_ne _ _ e]; exact hc

theorem HRel.none_of_len {ρ : Mp} {σ : Heap} {w : World} (h : HRel ρ σ w) {b : Nat} (hb : σ.length ≤ b) : ρ b = none := by
  cases e : ρ b with
  | none => rfl
  | some pl =>
    obtain ⟨x, hx, _⟩ := h.blk b pl e
    have := (List.getElem?_eq_some_iff.1 hx).1
    omega

theorem getElem?_snoc {α : Type} (σ : List α) (x : α) (b : Nat) : (σ ++ [x])[b]? = if b = σ.length then some x else σ[b]? := by
  by_cases e : b = σ.length
  · subst e; simp
  · rw [if_neg e]
    rcases Nat.lt_or_ge b σ.length with h | h
    · rw [List.getElem?_append_left h]
    · rw [List.getElem?_eq_none h, List.getElem?_eq_none (by simp; omega)]

/-- A NEW BLOCK. -/
theorem new_block {ρ : Mp} {lm : Lp} {l : Locs} {σ : Heap} {w w' : World} (hH : HRel ρ σ w) (hL : LRel ρ lm l σ w) (o : Obj) (x : Blk) (n : Nat)
    (ho : w'.os = w.os) (ht : w'.tape = w.tape) (hu : w'.output = w.output) (hheap : w'.heap = w.heap.push o)
    (hx : BRel ρ ⟨w.heap.size, 0, n⟩ w' x) (hrw : x.isRO = false) :
    HRel (upd ρ σ.length ⟨w.heap.size, 0, n⟩) (σ ++ [x]) w' ∧ LRel (upd ρ σ.length ⟨w.heap.size, 0, n⟩) lm l (σ ++ [x]) w' ∧
      Step ρ lm l σ w (upd ρ σ.length ⟨w.heap.size, 0, n⟩) lm l (σ ++ [x]) w' := by
  have hn := hH.none_of_len (Nat.le_refl _)
  have hext := upd_ext (⟨w.heap.size, 0, n⟩ : Pl) hn
  have hsz : w'.heap.size = w.heap.size + 1 := by rw [hheap]; simp
  have hold : ∀ k, k < w.heap.size → w'.heap[k]? = w.heap[k]? := fun k hk => by
    rw [hheap, Array.getElem?_push, if_neg (by omega)]
  refine ⟨⟨fun b pl hb => ?_, fun b b' pl pl' y y' hb hb' hy hy' hne hl hl' hr => ?_⟩, ⟨fun t k hk => ?_, hL.inj, fun t k b pl y hk hb hy hl => ?_⟩, ?_⟩
  · by_cases e : b = σ.length
    · subst e
      rw [upd_same] at hb
      injection hb with hb
      subst hb
      exact ⟨x, by simp, BRel.mono hext (fun _ => rfl) hx⟩
    · rw [upd_ne _ _ e] at hb
      obtain ⟨y, hy, hB⟩ := hH.blk b pl hb
      refine ⟨y, by rw [getElem?_snoc, if_neg e]; exact hy, BRel.mono hext (fun hl => hold _ (hB.lt hl)) hB⟩
  · rw [getElem?_snoc] at hy hy'
    by_cases e : b = σ.length
    · subst e
      rw [upd_same] at hb
      injection hb with hb
      subst hb
      rw [upd_ne _ _ (Ne.symm hne)] at hb'
      rw [if_neg (Ne.symm hne)] at hy'
      obtain ⟨z, hz, hB⟩ := hH.blk b' pl' hb'
      rw [hz] at hy'
      injection hy' with hy'
      subst hy'
      have := hB.lt hl'
      simp; omega
    · rw [upd_ne _ _ e] at hb
      rw [if_neg e] at hy
      by_cases e' : b' = σ.length
      · subst e'
        rw [upd_same] at hb'
        injection hb' with hb'
        subst hb'
        obtain ⟨z, hz, hB⟩ := hH.blk b pl hb
        rw [hz] at hy
        injection hy with hy
        subst hy
        have := hB.lt hl
        simp; omega
      · rw [upd_ne _ _ e'] at hb'
        rw [if_neg e'] at hy'
        exact hH.dis b b' pl pl' y y' hb hb' hy hy' hne hl hl' hr
  · obtain ⟨h1, h2⟩ := hL.loc t k hk
    exact ⟨by omega, h2.mono hext (hold k h1)⟩
  · rw [getElem?_snoc] at hy
    by_cases e : b = σ.length
    · subst e
      rw [upd_same] at hb
      injection hb with hb
      subst hb
      have := (hL.loc t k hk).1
      simp; omega
    · rw [upd_ne _ _ e] at hb
      rw [if_neg e] at hy
      exact hL.apart t k b pl y hk hb hy hl
  · refine ⟨ho, ht, hu, by omega, by simp, hext, fun b h0 h1 => ?_, fun k hk _ _ => hold k hk, fun b pl y hb hy hr => ?_, fun b y hb hr => ?_, fun b y hb hr => ?_, fun t k hk h2 => .inr ⟨t, hk, h2⟩⟩
    · by_cases e : b = σ.length
      · omega
      · rw [upd_ne _ _ e] at h1; exact absurd h0 h1
    · rw [getElem?_snoc] at hy
      by_cases e : b = σ.length
      · subst e
        rw [upd_same] at hb
        injection hb with hb
        subst hb
        exact .inl (Nat.le_refl _)
      · rw [upd_ne _ _ e] at hb
        rw [if_neg e] at hy
        exact .inr ⟨b, pl, y, hb, hy, hr, rfl⟩
    · rw [getElem?_snoc, if_neg (by have := (List.getElem?_eq_some_iff.1 hb).1; omega)]; exact hb
    · rw [getElem?_snoc] at hb
      by_cases e : b = σ.length
      · rw [if_pos e] at hb
        injection hb with hb
        subst hb
        rw [hrw] at hr
        cases hr
      · rwa [if_neg e] at hb

/-- A NEW PLACE OF THE FRAME'S OWN. -/
theorem new_local {ρ : Mp} {lm : Lp} {l : Locs} {σ : Heap} {w w' : World} (hH : HRel ρ σ w) (hL : LRel ρ lm l σ w) (o : Obj) (x : LBlk) (d : Nat)
    (hd : lm d = none) (hdl : d < l.length)
    (ho : w'.os = w.os) (ht : w'.tape = w.tape) (hu : w'.output = w.output) (hheap : w'.heap = w.heap.push o)
    (hx : LOne ρ w.heap.size w' x) :
    HRel ρ σ w' ∧ LRel ρ (upd lm d w.heap.size) (l.set d x) σ w' ∧ Step ρ lm l σ w ρ (upd lm d w.heap.size) (l.set d x) σ w' := by
  have hext := upd_ext w.heap.size hd
  have hsz : w'.heap.size = w.heap.size + 1 := by rw [hheap]; simp
  have hold : ∀ k, k < w.heap.size → w'.heap[k]? = w.heap[k]? := fun k hk => by
    rw [hheap, Array.getElem?_push, if_neg (by omega)]
  refine ⟨⟨fun b pl hb => ?_, hH.dis⟩, ⟨fun t k hk => ?_, fun t t' k hk hk' => ?_, fun t k b pl y hk hb hy hl => ?_⟩, ?_⟩
  · obtain ⟨y, hy, hB⟩ := hH.blk b pl hb
    exact ⟨y, hy, hB.mono (fun _ _ h => h) (fun hl => hold _ (hB.lt hl))⟩
  · by_cases e : t = d
    · subst e
      rw [upd_same] at hk
      injection hk with hk
      subst hk
      exact ⟨by omega, by simpa [List.getD, hdl] using hx⟩
    · rw [upd_ne _ _ e] at hk
      obtain ⟨h1, h2⟩ := hL.loc t k hk
      refine ⟨by omega, ?_⟩
      have : (l.set d x).getD t .none = l.getD t .none := by simp [List.getD, List.getElem?_set_ne (Ne.symm e)]
      rw [this]
      exact h2.mono (fun _ _ h => h) (hold k h1)
  · by_cases e : t = d
    · subst e
      rw [upd_same] at hk
      injection hk with hk
      by_cases e' : t' = t
      · exact e'.symm
      · rw [upd_ne _ _ e'] at hk'
        have := (hL.loc t' k hk').1
        omega
    · rw [upd_ne _ _ e] at hk
      by_cases e' : t' = d
      · subst e'
        rw [upd_same] at hk'
        injection hk' with hk'
        have := (hL.loc t k hk).1
        omega
      · rw [upd_ne _ _ e'] at hk'
        exact hL.inj t t' k hk hk'
  · by_cases e : t = d
    · subst e
      rw [upd_same] at hk
      injection hk with hk
      subst hk
      obtain ⟨z, hz, hB⟩ := hH.blk b pl hb
      rw [hz] at hy
      injection hy with hy
      subst hy
      have := hB.lt hl
      omega
    · rw [upd_ne _ _ e] at hk
      exact hL.apart t k b pl y hk hb hy hl
  · refine ⟨ho, ht, hu, by omega, Nat.le_refl _, fun _ _ h => h, fun _ h h' => absurd h h', fun k hk _ _ => hold k hk, fun b pl y hb hy hr => .inr ⟨b, pl, y, hb, hy, hr, rfl⟩, fun _ _ h _ => h, fun _ _ h _ => h, fun t k hk hr => ?_⟩
    by_cases e : t = d
    · subst e
      rw [upd_same] at hk
      injection hk with hk
      exact .inl (by omega)
    · rw [upd_ne _ _ e] at hk
      have : (l.set d x).getD t .none = l.getD t .none := by simp [List.getD, List.getElem?_set_ne (Ne.symm e)]
      rw [this] at hr
      exact .inr ⟨t, hk, hr⟩

/-- A BLOCK THAT MAY BE WRITTEN is another one now (its place in the world has turned, no other). -/
theorem turn_block {ρ : Mp} {lm : Lp} {l : Locs} {σ : Heap} {w w' : World} (hH : HRel ρ σ w) (hL : LRel ρ lm l σ w) (b : Nat) (pl : Pl) (x x' : Blk)
    (hb : ρ b = some pl) (hx : σ[b]? = some x) (hrw : x.isRW = true) (hx' : BRel ρ pl w' x') (hm : x'.isRW = true ∨ x'.live = false)
    (ho : w'.os = w.os) (ht : w'.tape = w.tape) (hu : w'.output = w.output) (hsz : w'.heap.size = w.heap.size) (hold : ∀ k, k ≠ pl.blk → w'.heap[k]? = w.heap[k]?) :
    HRel ρ (σ.set b x') w' ∧ LRel ρ lm l (σ.set b x') w' ∧ Step ρ lm l σ w ρ lm l (σ.set b x') w' := by
  have hlt := (List.getElem?_eq_some_iff.1 hx).1
  have hlive := Blk.live_of_isRW hrw
  have hro : x'.isRO = false := by
    cases x' with
    | row cs m => cases m <;> simp_all [Blk.isRW, Blk.isRO, Blk.live]
    | map es => rfl
  have hlv : x'.live = true → x'.isRW = true := fun h => hm.resolve_right (by simp [h])
  have hget : ∀ c, (σ.set b x')[c]? = if c = b then some x' else σ[c]? := fun c => by
    by_cases e : c = b
    · subst e; simp [hlt]
    · rw [List.getElem?_set_ne (Ne.symm e), if_neg e]
  refine ⟨⟨fun c pc hc => ?_, fun c c' pc pc' y y' hc hc' hy hy' hne hl hl' hr => ?_⟩, ⟨fun t k hk => ?_, hL.inj, fun t k c pc y hk hc hy hl => ?_⟩, ?_⟩
  · by_cases e : c = b
    · subst e
      rw [hb] at hc
      injection hc with hc
      subst hc
      exact ⟨x', by rw [hget, if_pos rfl], hx'⟩
    · obtain ⟨y, hy, hB⟩ := hH.blk c pc hc
      refine ⟨y, by rw [hget, if_neg e]; exact hy, hB.mono (fun _ _ h => h) (fun hl => hold _ ?_)⟩
      exact fun he => hH.dis b c pl pc x y hb hc hx hy (Ne.symm e) hlive hl hrw he.symm
  · rw [hget] at hy hy'
    by_cases e : c = b
    · subst e
      rw [if_neg (Ne.symm hne)] at hy'
      rw [hb] at hc
      injection hc with hc
      subst hc
      exact hH.dis c c' pl pc' x y' hb hc' hx hy' hne hlive hl' hrw
    · rw [if_neg e] at hy
      by_cases e' : c' = b
      · subst e'
        rw [hb] at hc'
        injection hc' with hc'
        subst hc'
        exact hH.dis c c' pc pl y x hc hb hy hx hne hl hlive hr
      · rw [if_neg e'] at hy'
        exact hH.dis c c' pc pc' y y' hc hc' hy hy' hne hl hl' hr
  · obtain ⟨h1, h2⟩ := hL.loc t k hk
    exact ⟨by omega, h2.mono (fun _ _ h => h) (hold k fun he => hL.apart t k b pl x hk hb hx hlive he.symm)⟩
  · rw [hget] at hy
    by_cases e : c = b
    · subst e
      rw [hb] at hc
      injection hc with hc
      subst hc
      exact hL.apart t k c pl x hk hb hx hlive
    · rw [if_neg e] at hy
      exact hL.apart t k c pc y hk hc hy hl
  · refine ⟨ho, ht, hu, by omega, by simp, fun _ _ h => h, fun _ h h' => absurd h h', fun k _ h1 _ => hold k (Ne.symm (h1 b pl x hb hx hrw)), fun c pc y hc hy hr => ?_, fun c y hc hr => ?_, fun c y hc hr => ?_, fun t k hk h2 => .inr ⟨t, hk, h2⟩⟩
    · rw [hget] at hy
      by_cases e : c = b
      · subst e
        rw [hb] at hc
        injection hc with hc
        subst hc
        exact .inr ⟨c, pl, x, hb, hx, hrw, rfl⟩
      · rw [if_neg e] at hy
        exact .inr ⟨c, pc, y, hc, hy, hr, rfl⟩
    · by_cases e : c = b
      · subst e
        rw [hx] at hc
        injection hc with hc
        subst hc
        cases x with
        | row cs m => cases m <;> simp_all [Blk.isRW, Blk.isRO]
        | map es => simp [Blk.isRO] at hr
      · rw [hget, if_neg e]; exact hc
    · rw [hget] at hc
      by_cases e : c = b
      · rw [if_pos e] at hc
        injection hc with hc
        subst hc
        rw [hro] at hr
        cases hr
      · rwa [if_neg e] at hc

/-- A place of the frame's own is written. -/
theorem turn_local {ρ : Mp} {lm : Lp} {l : Locs} {σ : Heap} {w w' : World} (hH : HRel ρ σ w) (hL : LRel ρ lm l σ w) (t k : Nat) (x : LBlk)
    (hk : lm t = some k) (htl : t < l.length) (hlo : (l.getD t .none).isRO = false) (hx : LOne ρ k w' x)
    (ho : w'.os = w.os) (ht : w'.tape = w.tape) (hu : w'.output = w.output) (hsz : w'.heap.size = w.heap.size) (hold : ∀ i, i ≠ k → w'.heap[i]? = w.heap[i]?) :
    HRel ρ σ w' ∧ LRel ρ lm (l.set t x) σ w' ∧ Step ρ lm l σ w ρ lm (l.set t x) σ w' := by
  refine ⟨⟨fun b pl hb => ?_, hH.dis⟩, ⟨fun s i hs => ?_, hL.inj, hL.apart⟩, ?_⟩
  · obtain ⟨y, hy, hB⟩ := hH.blk b pl hb
    exact ⟨y, hy, hB.mono (fun _ _ h => h) (fun hl => hold _ (hL.apart t k b pl y hk hb hy hl))⟩
  · obtain ⟨h1, h2⟩ := hL.loc s i hs
    refine ⟨by omega, ?_⟩
    by_cases e : s = t
    · subst e
      rw [hk] at hs
      injection hs with hs
      subst hs
      simpa [List.getD, htl] using hx
    · have : (l.set t x).getD s .none = l.getD s .none := by simp [List.getD, List.getElem?_set_ne (Ne.symm e)]
      rw [this]
      exact h2.mono (fun _ _ h => h) (hold i fun he => e (hL.inj s t i hs (he ▸ hk)))
  · refine ⟨ho, ht, hu, by omega, Nat.le_refl _, fun _ _ h => h, fun _ h h' => absurd h h', fun i _ _ h2 => hold i fun he => (by rw [h2 t (he ▸ hk)] at hlo; cases hlo), fun b pl y hb hy hr => .inr ⟨b, pl, y, hb, hy, hr, rfl⟩, fun _ _ h _ => h, fun _ _ h _ => h, fun s i hs hr => ?_⟩
    by_cases e : s = t
    · subst e; exact .inr ⟨s, hs, hlo⟩
    · have : (l.set t x).getD s .none = l.getD s .none := by simp [List.getD, List.getElem?_set_ne (Ne.symm e)]
      rw [this] at hr
      exact .inr ⟨s, hs, hr⟩

end Go.Abs
