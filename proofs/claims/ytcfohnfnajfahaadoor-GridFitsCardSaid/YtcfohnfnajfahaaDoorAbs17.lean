/-
Regions whose order is the tape's: what one operation does, whichever ran before it.
-/
import Derived.Test.YtcfohnfnajfahaaDoorAbs16
namespace Go.Abs
open Go

/-- m comes before i, whatever the tape says. -/
inductive Anc (ops : Array Oper) : Nat → Nat → Prop where
  | edge {m i : Nat} {o : Oper} : ops[i]? = some o → hasEdge o m = true → Anc ops m i
  | more {m k i : Nat} {o : Oper} : Anc ops m k → ops[i]? = some o → hasEdge o k = true → Anc ops m i

/-- From the h-th one on. -/
structure Good (ops : Array Oper) (h : Nat) (q : Nat → Bool) : Prop where
  acyc : ∀ (i : Nat) (o : Oper), h ≤ i → ops[i]? = some o → ∀ e ∈ o.after, Region.binds .any e = true → e.on < i
  bar : ∀ (b i : Nat) (o : Oper), ops[i]? = some o → h ≤ b → b < i → q b = false → (∀ m, b < m → m < i → q m = true) → Anc ops b i
  barAll : ∀ (b m : Nat) (o : Oper), ops[b]? = some o → h ≤ m → q b = false → m < b → Anc ops m b
  two : ∀ (k i : Nat) (ok oi : Oper), ops[k]? = some ok → ops[i]? = some oi → h ≤ k → k < i → (∀ m, k ≤ m → m ≤ i → q m = true) →
    (Anc ops k i ∨ ok.apart ops oi = true) ∧ (∀ d, ok.dst = some d → oi.dst ≠ some d)

/-! ### Frozen memory -/
theorem Blk.frz_isRW (x : Blk) : x.frz.isRW = false := by
  cases x with
  | row cs m => cases m <;> rfl
  | map es => rfl
theorem Heap.frz_get (σ : Heap) (b : Nat) : σ.frz[b]? = (σ[b]?).map Blk.frz := by simp [Heap.frz]
theorem Heap.frz_length (σ : Heap) : σ.frz.length = σ.length := by simp [Heap.frz]
theorem BRel.frz {ρ : Mp} {pl : Pl} {w : World} {x : Blk} (h : BRel ρ pl w x) : BRel ρ pl w x.frz := by
  cases x with
  | row cs m =>
    cases m with
    | ro => exact h
    | rw => obtain ⟨c, ty, fr, h1, h2, h3, h4, h5, h6⟩ := h; exact ⟨c, ty, fr, h1, h2, h3, h4, (fun h => by cases h), h6.win⟩
    | dead => exact h
  | map es => trivial
theorem HRel.frz {ρ : Mp} {σ : Heap} {w : World} (h : HRel ρ σ w) : HRel ρ σ.frz w where
  blk := fun b pl hb => let ⟨x, hx, hB⟩ := h.blk b pl hb; ⟨x.frz, by rw [Heap.frz_get, hx]; rfl, hB.frz⟩
  dis := fun b b' pl pl' x x' _ _ hx _ _ _ _ hr => by
    rw [Heap.frz_get] at hx
    obtain ⟨y, _, rfl⟩ := Option.map_eq_some_iff.1 hx
    rw [Blk.frz_isRW] at hr
    cases hr
theorem Locs.frz_getD (l : Locs) (t : Nat) : l.frz.getD t .none = (l.getD t .none).frz := by
  simp only [Locs.frz, List.getD, List.getElem?_map]
  cases l[t]? <;> rfl
theorem LBlk.frz_ro {x : LBlk} (h : x ≠ .none) : x.frz.isRO = true := by cases x <;> first | rfl | (exact absurd rfl h)
theorem LBlk.frz_none {x : LBlk} (h : x.frz = .none) : x = .none := by cases x <;> first | rfl | (cases h)
theorem LOne.frz {ρ : Mp} {k : Nat} {w : World} {x : LBlk} (h : LOne ρ k w x) : LOne ρ k w x.frz := by cases x <;> exact h
theorem LRel.frz {ρ : Mp} {lm : Lp} {l : Locs} {σ : Heap} {w : World} (h : LRel ρ lm l σ w) : LRel ρ lm l.frz σ.frz w where
  loc := fun t k hk => let ⟨h1, h2⟩ := h.loc t k hk; ⟨h1, by rw [Locs.frz_getD]; exact h2.frz⟩
  inj := h.inj
  apart := fun t k b pl x hk hb hx hl => by
    rw [Heap.frz_get] at hx
    obtain ⟨y, hy, rfl⟩ := Option.map_eq_some_iff.1 hx
    refine h.apart t k b pl y hk hb hy ?_
    cases y with
    | row cs m => cases m <;> first | rfl | exact hl
    | map es => rfl

theorem Heap.back_old (σ σ' : Heap) {b : Nat} (h : b < σ.length) : (σ.back σ')[b]? = σ[b]? := by
  unfold Heap.back; rw [List.getElem?_append_left h]
theorem Heap.back_new (σ σ' : Heap) {b : Nat} (h : σ.length ≤ b) : (σ.back σ')[b]? = σ'[b]? := by
  unfold Heap.back
  rw [List.getElem?_append_right h, List.getElem?_drop]
  congr 1
  omega
theorem Heap.back_length (σ σ' : Heap) (h : σ.length ≤ σ'.length) : (σ.back σ').length = σ'.length := by
  unfold Heap.back; simp; omega
theorem Locs.back_getD : ∀ (l l' : Locs) (t : Nat), (Locs.back l l').getD t .none = match l.getD t .none with | .none => l'.getD t .none | x => x
  | [], l', t => by cases l' <;> simp [Locs.back, List.getD]
  | x :: xs, [], t => by
    simp only [Locs.back, List.getD, List.getElem?_nil, Option.getD_none]
    split <;> simp_all
  | x :: xs, y :: ys, 0 => by cases x <;> simp [Locs.back]
  | x :: xs, y :: ys, t + 1 => by
    have := Locs.back_getD xs ys t
    simpa [Locs.back, List.getD] using this
theorem Locs.back_old {l : Locs} {t : Nat} (l' : Locs) (h : l.getD t .none ≠ .none) : (Locs.back l l').getD t .none = l.getD t .none := by
  rw [Locs.back_getD]
  split
  · rename_i h'; exact absurd h' h
  · rfl
theorem Locs.back_new {l : Locs} {t : Nat} (l' : Locs) (h : l.getD t .none = .none) : (Locs.back l l').getD t .none = l'.getD t .none := by
  rw [Locs.back_getD, h]

theorem HRel.grow {ρ : Mp} {σ : Heap} {w w' : World} (h : HRel ρ σ w) (hx : ∀ k, k < w.heap.size → w'.heap[k]? = w.heap[k]?) : HRel ρ σ w' :=
  ⟨fun b pl hb => let ⟨x, hx', hB⟩ := h.blk b pl hb; ⟨x, hx', hB.mono (fun _ _ h => h) (fun hl => hx _ (hB.lt hl))⟩, h.dis⟩
theorem LRel.grow {ρ : Mp} {lm : Lp} {l : Locs} {σ : Heap} {w w' : World} (h : LRel ρ lm l σ w) (hs : w.heap.size ≤ w'.heap.size) (hx : ∀ k, k < w.heap.size → w'.heap[k]? = w.heap[k]?) : LRel ρ lm l σ w' :=
  ⟨fun t k hk => let ⟨h1, h2⟩ := h.loc t k hk; ⟨Nat.lt_of_lt_of_le h1 hs, h2.mono (fun _ _ h => h) (hx k h1)⟩, h.inj, h.apart⟩

/-- Cut off: what was there at a moment of the text. -/
def cutR (ρ : Mp) (σ : Heap) : Mp := fun b => if b < σ.length then ρ b else none
def LBlk.isNone : LBlk → Bool | .none => true | _ => false
def cutL (lm : Lp) (l : Locs) : Lp := fun t => if (l.getD t .none).isNone then none else lm t
theorem LBlk.isNone_iff {x : LBlk} : x.isNone = true ↔ x = .none := by cases x <;> simp [LBlk.isNone]
theorem cutR_some {ρ : Mp} {σ : Heap} {b : Nat} {pl : Pl} : cutR ρ σ b = some pl ↔ b < σ.length ∧ ρ b = some pl := by
  unfold cutR
  split
  · rename_i h; simp [h]
  · rename_i h
    constructor
    · intro h'; cases h'
    · intro h'; exact absurd h'.1 h
theorem cutL_some {lm : Lp} {l : Locs} {t k : Nat} : cutL lm l t = some k ↔ l.getD t .none ≠ .none ∧ lm t = some k := by
  unfold cutL
  split
  · rename_i h
    rw [LBlk.isNone_iff] at h
    constructor
    · intro h'; cases h'
    · intro h'; exact absurd h h'.1
  · rename_i h
    have : l.getD t .none ≠ .none := fun h' => h (LBlk.isNone_iff.2 h')
    simp only [this, ne_eq, not_false_eq_true, true_and]

/-! ### The run of the text -/
structure RunOf (P : Program) (T : Tab) (ops : Array Oper) (q : Nat → Bool) (E : Nat → Env) (L : Nat → Locs) (H : Nat → Heap) (V : Nat → AVal) : Prop where
  step : ∀ (j : Nat) (o : Oper), ops[j]? = some o → OneStep P T ops (q j) o (E j) (L j) (H j) (V j) (L (j + 1)) (H (j + 1))
  env : ∀ (j : Nat) (o : Oper), ops[j]? = some o → E (j + 1) = put (E j) o.dst (V j)

theorem Trace.fns {P : Program} {T : Tab} {ops : Array Oper} : ∀ {os : List Oper} {qs : List Bool} {e : Env} {l : Locs} {σ : Heap} {e' : Env} {l' : Locs} {σ' : Heap}, Trace P T ops os qs e l σ e' l' σ' →
    ∃ (E : Nat → Env) (L : Nat → Locs) (H : Nat → Heap) (V : Nat → AVal), E 0 = e ∧ L 0 = l ∧ H 0 = σ ∧ E os.length = e' ∧ L os.length = l' ∧ H os.length = σ' ∧
      ∀ (j : Nat) (o : Oper), os[j]? = some o → OneStep P T ops (qs.getD j false) o (E j) (L j) (H j) (V j) (L (j + 1)) (H (j + 1)) ∧ E (j + 1) = put (E j) o.dst (V j)
  | [], qs, e, l, σ, e', l', σ', h => by
    obtain ⟨rfl, rfl, rfl⟩ := h
    exact ⟨fun _ => e', fun _ => l', fun _ => σ', fun _ => .undef, rfl, rfl, rfl, rfl, rfl, rfl, fun j o h => by simp at h⟩
  | o :: os, qs, e, l, σ, e', l', σ', h => by
    obtain ⟨v, l1, σ1, h1, h2⟩ := h
    obtain ⟨E, L, H, V, a1, a2, a3, a4, a5, a6, a7⟩ := Trace.fns h2
    refine ⟨fun j => match j with | 0 => e | j + 1 => E j, fun j => match j with | 0 => l | j + 1 => L j, fun j => match j with | 0 => σ | j + 1 => H j, fun j => match j with | 0 => v | j + 1 => V j,
      rfl, rfl, rfl, a4, a5, a6, fun j o' hj => ?_⟩
    cases j with
    | zero =>
      simp only [List.getElem?_cons_zero, Option.some.injEq] at hj
      subst hj
      have : qs.getD 0 false = qs.headD false := by cases qs <;> rfl
      simp only [this, a1, a2, a3]
      exact ⟨h1, trivial⟩
    | succ j =>
      simp only [List.getElem?_cons_succ] at hj
      have := a7 j o' hj
      have e1 : qs.getD (j + 1) false = qs.tail.getD j false := by cases qs <;> simp [List.getD]
      rw [e1]
      exact this

section
variable {P : Program} {T : Tab} {ops : Array Oper} {q : Nat → Bool} {E : Nat → Env} {L : Nat → Locs} {H : Nat → Heap} {V : Nat → AVal}

/-- What a quiet step leaves. -/
theorem quiet_mono (run : RunOf P T ops q E L H V) {j : Nat} {o : Oper} (ho : ops[j]? = some o) (hq : q j = true) :
    (H j).length ≤ (H (j + 1)).length ∧ (∀ b, b < (H j).length → (H (j + 1))[b]? = (H j)[b]?) ∧ (∀ t, (L j).getD t .none ≠ .none → (L (j + 1)).getD t .none = (L j).getD t .none) := by
  have := run.step j o ho
  rw [hq] at this
  rcases this with ⟨_, l1, σ1, _, h2, h3⟩ | ⟨_, _, h2, h3⟩
  · rw [h2, h3]
    exact ⟨by simp [Heap.back], fun b hb => Heap.back_old _ _ hb, fun t ht => Locs.back_old _ ht⟩
  · rw [h2, h3]
    exact ⟨Nat.le_refl _, fun _ _ => rfl, fun _ _ => rfl⟩

structure Seg (ops : Array Oper) (q : Nat → Bool) (p z : Nat) : Prop where
  le : p ≤ z
  len : z ≤ ops.size
  quiet : ∀ j, p ≤ j → j < z → q j = true

theorem Seg.get {p z : Nat} (s : Seg ops q p z) {j : Nat} (h : j < z) : ∃ o, ops[j]? = some o :=
  ⟨_, Array.getElem?_eq_getElem (Nat.lt_of_lt_of_le h s.len)⟩

theorem seg_mono (run : RunOf P T ops q E L H V) {p z : Nat} (s : Seg ops q p z) {i : Nat} (hp : p ≤ i) : ∀ (d : Nat), i + d ≤ z →
    (H i).length ≤ (H (i + d)).length ∧ (∀ b, b < (H i).length → (H (i + d))[b]? = (H i)[b]?) ∧ (∀ t, (L i).getD t .none ≠ .none → (L (i + d)).getD t .none = (L i).getD t .none)
  | 0, _ => ⟨Nat.le_refl _, fun _ _ => rfl, fun _ _ => rfl⟩
  | d + 1, hd => by
    obtain ⟨h1, h2, h3⟩ := seg_mono run s hp d (by omega)
    obtain ⟨o, ho⟩ := s.get (j := i + d) (by omega)
    obtain ⟨g1, g2, g3⟩ := quiet_mono run ho (s.quiet (i + d) (by omega) (by omega))
    rw [show i + (d + 1) = i + d + 1 from rfl]
    exact ⟨by omega, fun b hb => by rw [g2 b (by omega), h2 b hb], fun t ht => by
      have := h3 t ht
      rw [g3 t (by rw [this]; exact ht), this]⟩
theorem seg_mono' (run : RunOf P T ops q E L H V) {p z : Nat} (s : Seg ops q p z) {i j : Nat} (hp : p ≤ i) (hij : i ≤ j) (hj : j ≤ z) :
    (H i).length ≤ (H j).length ∧ (∀ b, b < (H i).length → (H j)[b]? = (H i)[b]?) ∧ (∀ t, (L i).getD t .none ≠ .none → (L j).getD t .none = (L i).getD t .none) := by
  obtain ⟨d, rfl⟩ := Nat.le.dest hij
  exact seg_mono run s hp d hj

/-- A value of the text. -/
theorem env_at (run : RunOf P T ops q E L H V) {p z : Nat} (s : Seg ops q p z) (t : Nat) : ∀ (d : Nat), p + d ≤ z →
    (E (p + d)).length = (E p).length ∧
    ((∃ k o, p ≤ k ∧ k < p + d ∧ ops[k]? = some o ∧ o.dst = some t ∧ (t < (E p).length → (E (p + d)).getD t .undef = V k)) ∨
      ((∀ k o, p ≤ k → k < p + d → ops[k]? = some o → o.dst ≠ some t) ∧ (E (p + d)).getD t .undef = (E p).getD t .undef))
  | 0, _ => ⟨rfl, .inr ⟨fun k o h1 h2 => by omega, rfl⟩⟩
  | d + 1, hd => by
    obtain ⟨h1, h2⟩ := env_at run s t d (by omega)
    obtain ⟨o, ho⟩ := s.get (j := p + d) (by omega)
    have he := run.env (p + d) o ho
    rw [show p + (d + 1) = p + d + 1 from rfl, he]
    refine ⟨by rw [put_length]; exact h1, ?_⟩
    rw [put_getD]
    by_cases hdst : o.dst = some t
    · left
      refine ⟨p + d, o, by omega, by omega, ho, hdst, fun hl => ?_⟩
      rw [if_pos ⟨hdst, by rw [h1]; exact hl⟩]
    · rw [if_neg (fun h => hdst h.1)]
      rcases h2 with ⟨k, o', k1, k2, k3, k4, k5⟩ | ⟨k1, k2⟩
      · exact .inl ⟨k, o', k1, by omega, k3, k4, k5⟩
      · refine .inr ⟨fun k o' h1 h2 h3 => ?_, k2⟩
        rcases Nat.lt_or_ge k (p + d) with h | h
        · exact k1 k o' h1 h h3
        · obtain rfl : k = p + d := by omega
          rw [ho] at h3
          injection h3 with h3
          subst h3
          exact hdst

/-- What holds when the operations of S have run. -/
structure Inv (T : Tab) (ops : Array Oper) (E : Nat → Env) (L : Nat → Locs) (H : Nat → Heap) (V : Nat → AVal) (p z : Nat) (ρ0 : Mp) (lm0 : Lp) (w0 : World) (S : Nat → Bool) (ρ : Mp) (lm : Lp) (a : Act) (w : World) : Prop where
  ext : ∀ b pl, ρ0 b = some pl → ρ b = some pl
  lext : ∀ t k, lm0 t = some k → lm t = some k
  newR : ∀ b, ρ b ≠ none → ρ0 b = none → ∃ k, p ≤ k ∧ k < z ∧ S k = true ∧ (H k).length ≤ b ∧ b < (H (k + 1)).length
  newL : ∀ t kk, lm t = some kk → lm0 t = none → w0.heap.size ≤ kk ∧ ∃ k o, p ≤ k ∧ k < z ∧ S k = true ∧ ops[k]? = some o ∧ o.dst = some t
  prov : ∀ b pl x, ρ b = some pl → ρ0 b = none → (H z)[b]? = some x → x.isRW = true → w0.heap.size ≤ pl.blk
  nro : ∀ k b x, p ≤ k → k < z → S k = true → (H k).length ≤ b → (H (k + 1))[b]? = some x → x.isRO = false
  rel : ∀ j, p ≤ j → j ≤ z → HRel (cutR ρ (H j)) (H j) w ∧ LRel (cutR ρ (H j)) (cutL lm (L j)) (L j) (H j) w
  size : a.tmps.size = (E p).length
  defers : a.defers = []
  act : ∀ t v, a.tmps[t]? = some v →
    (∀ k o, p ≤ k → k < z → S k = true → ops[k]? = some o → o.dst = some t → VRel (cutR ρ (H (k + 1))) (cutL lm (L (k + 1))) (V k) v) ∧
    ((∀ k o, p ≤ k → k < z → S k = true → ops[k]? = some o → o.dst ≠ some t) → VRel ρ0 lm0 ((E p).getD t .undef) v)
  os : w.os = w0.os
  tape : w.tape = w0.tape
  output : w.output = w0.output
  hsize : w0.heap.size ≤ w.heap.size
  old : ∀ k, k < w0.heap.size → w.heap[k]? = w0.heap[k]?

structure Base (T : Tab) (L : Nat → Locs) (H : Nat → Heap) (p : Nat) (ρ0 : Mp) (lm0 : Lp) : Prop where
  r : ∀ b pl, ρ0 b = some pl → b < (H p).length
  l : ∀ t k, lm0 t = some k → (L p).getD t .none ≠ .none
  glob : GRel T ρ0

end
end Go.Abs
