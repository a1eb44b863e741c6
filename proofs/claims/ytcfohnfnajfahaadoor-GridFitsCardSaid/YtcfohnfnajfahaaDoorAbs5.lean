/-
Operations: what they do on the abstract memory they do in the world.
-/
import Derived.Test.YtcfohnfnajfahaaDoorAbs4
namespace Go.Abs
open Go

theorem add_none (b o n : Nat) : (⟨b, o, none⟩ : Addr).add n = ⟨b, o + n, none⟩ := by
  unfold Addr.add; split <;> simp_all

theorem overwrite_length : ∀ (vs cs : List AVal) (o : Nat), (overwrite cs o vs).length = cs.length
  | [], _, _ => rfl
  | v :: vs, cs, o => by simp [overwrite, overwrite_length vs]
theorem overwrite_get : ∀ (vs cs : List AVal) (o j : Nat), o + vs.length ≤ cs.length → (overwrite cs o vs)[j]? = if o ≤ j ∧ j < o + vs.length then vs[j - o]? else cs[j]?
  | [], cs, o, j, _ => by simp [overwrite]; intro h1 h2; omega
  | v :: vs, cs, o, j, h => by
    simp only [List.length_cons] at h
    rw [overwrite, overwrite_get vs _ _ _ (by simp; omega)]
    by_cases h1 : j = o
    · subst h1
      rw [if_neg (by omega), if_pos (by simp)]
      simp [show j < cs.length by omega]
    · by_cases h2 : o + 1 ≤ j ∧ j < o + 1 + vs.length
      · rw [if_pos h2, if_pos (by simp; omega)]
        rw [show j - o = j - (o + 1) + 1 by omega]
        simp
      · rw [if_neg h2, if_neg (by simp; omega)]
        simp [List.getElem?_set_ne (Ne.symm h1)]

/-- Cells of a block written. -/
structure Wrote (w w' : World) (b o : Nat) (vs : List Value) (c c' : Array Value) (ty : TypeId) (fr : Nat × Nat) : Prop where
  os : w'.os = w.os
  tape : w'.tape = w.tape
  output : w'.output = w.output
  hsize : w'.heap.size = w.heap.size
  heap : w'.heap[b]? = some (.cells c' ty fr)
  size : c'.size = c.size
  at_ : ∀ j, c'[j]? = if o ≤ j ∧ j < o + vs.length then vs[j - o]? else c[j]?
  old : ∀ k, k ≠ b → w'.heap[k]? = w.heap[k]?

theorem Wrote.ones {w w' : World} {b o : Nat} {vs : List Value} {c c' : Array Value} {ty : TypeId} {fr : Nat × Nat} (h : Wrote w w' b o vs c c' ty fr) (hc : Ones c) (hv : ∀ v ∈ vs, v.oneCell' = true) : Ones c' := by
  intro v hv'
  obtain ⟨j, hj⟩ := List.mem_iff_getElem?.1 hv'
  rw [Array.getElem?_toList, h.at_] at hj
  split at hj
  · exact hv v (List.mem_of_getElem? hj)
  · exact hc v (List.mem_of_getElem? (by rw [Array.getElem?_toList]; exact hj))

theorem setCells_wrote : ∀ (vs : List Value) (w : World) (b o : Nat) (c : Array Value) (ty : TypeId) (fr : Nat × Nat), w.heap[b]? = some (.cells c ty fr) → o + vs.length ≤ c.size →
    ∃ c', Wrote w (w.setCells b o vs) b o vs c c' ty fr
  | [], w, b, o, c, ty, fr, hb, _ => ⟨c, rfl, rfl, rfl, rfl, hb, rfl, fun j => by simp; intro h1 h2; omega, fun _ _ => rfl⟩
  | v :: vs, w, b, o, c, ty, fr, hb, hl => by
    simp only [List.length_cons] at hl
    have hb1 : (w.setCell ⟨b, o, none⟩ v).heap[b]? = some (.cells (c.setIfInBounds o v) ty fr) := by
      simp [World.setCell, Array.getElem?_modify, hb]
    obtain ⟨c', h⟩ := setCells_wrote vs (w.setCell ⟨b, o, none⟩ v) b (o + 1) (c.setIfInBounds o v) ty fr hb1 (by simp; omega)
    refine ⟨c', h.os, h.tape, h.output, h.hsize.trans (by simp [World.setCell]), h.heap, h.size.trans (by simp), fun j => ?_, fun k hk => ?_⟩
    · rw [h.at_ j]
      by_cases h1 : j = o
      · subst h1
        rw [if_neg (by omega), if_pos (by simp)]
        simp [show j < c.size by omega]
      · by_cases h2 : o + 1 ≤ j ∧ j < o + 1 + vs.length
        · rw [if_pos h2, if_pos (by simp; omega)]
          rw [show j - o = j - (o + 1) + 1 by omega]
          simp
        · rw [if_neg h2, if_neg (by simp; omega)]
          simp [Array.getElem?_setIfInBounds_ne (Ne.symm h1)]
    · rw [World.setCells, h.old k hk]
      simp only [World.setCell, Array.getElem?_modify]
      rw [if_neg (by omega)]

/-- Cells that are there and not frozen can be written. -/
theorem run_store_block {P : Program} (w : World) (b o : Nat) (vs : List Value) (c : Array Value) (ty : TypeId) (fr : Nat × Nat) (hb : w.heap[b]? = some (.cells c ty fr)) (hl : o + vs.length ≤ c.size)
    (hf : Unfrozen fr c.size) (h1 : ∀ v ∈ vs, v.oneCell' = true) : (storeCells ⟨b, o, none⟩ vs).run P w = .ok () (w.setCells b o vs) := by
  have := run_storeCells_cells (P := P) b o vs 0 w (fun j hj => by simp [World.cell?, hb]; omega)
    (fun j hj => by
      have := hf (o + j) (by omega)
      simp [World.frozen?, hb]; omega) h1
  simpa using this

theorem row?_some {σ : Heap} {b : Nat} {cs : List AVal} (h : σ.row? b = some cs) : ∃ m, σ[b]? = some (.row cs m) ∧ m ≠ .dead := by
  unfold Heap.row? at h
  split at h
  · rename_i cs' h'; injection h with h; subst h; exact ⟨.ro, h', by simp⟩
  · rename_i cs' h'; injection h with h; subst h; exact ⟨.rw, h', by simp⟩
  · cases h

section
variable {ρ : Mp} {σ : Heap} {w : World}
theorem row_rel (hH : HRel ρ σ w) {b : Nat} {pl : Pl} (hb : ρ b = some pl) {cs : List AVal} (h : σ.row? b = some cs) :
    ∃ c ty fr, w.heap[pl.blk]? = some (.cells c ty fr) ∧ c.size = pl.size ∧ pl.off + cs.length ≤ c.size ∧ (∀ j x, cs[j]? = some x → ∃ v, c[pl.off + j]? = some v ∧ VRel ρ noL x v) ∧ (∀ j, j < cs.length → ∀ v, c[pl.off + j]? = some v → v.oneCell' = true) := by
  obtain ⟨m, hm, hd⟩ := row?_some h
  obtain ⟨x, hx, hB⟩ := hH.blk b pl hb
  rw [hm] at hx
  injection hx with hx
  subst hx
  cases m with
  | dead => exact absurd rfl hd
  | ro => obtain ⟨c, ty, fr, h1, h2, h3, h4, _, h6⟩ := hB; exact ⟨c, ty, fr, h1, h2, h3, h4, h6.win⟩
  | rw => obtain ⟨c, ty, fr, h1, h2, h3, h4, _, h6⟩ := hB; exact ⟨c, ty, fr, h1, h2, h3, h4, h6.win⟩
theorem cell_rel (hH : HRel ρ σ w) {b : Nat} {pl : Pl} (hb : ρ b = some pl) {j : Nat} {y : AVal} (h : σ.cell? b j = some y) :
    ∃ v, w.cell? ⟨pl.blk, pl.off + j, none⟩ = some v ∧ VRel ρ noL y v := by
  obtain ⟨cs, h1, h2⟩ := Option.bind_eq_some_iff.1 h
  obtain ⟨c, ty, fr, g1, _, _, g4, _⟩ := row_rel hH hb h1
  obtain ⟨v, e, hr⟩ := g4 j y h2
  exact ⟨v, by simp [World.cell?, g1, e], hr⟩
end

theorem VRel.any {ρ : Mp} {x : AVal} {v : Value} (lm : Lp) (h : VRel ρ noL x v) : VRel ρ lm x v := h.mono (fun _ _ h => h) (fun _ _ h => by cases h)
theorem VRels.any {ρ : Mp} {x : List AVal} {v : List Value} (lm : Lp) (h : VRels ρ noL x v) : VRels ρ lm x v := h.mono (fun _ _ h => h) (fun _ _ h => by cases h)

section
variable {P : Program} {T : Tab} {t : TypeId} {i : TI} {inf : TypeInfo} {d : TypeDesc} {z : Value}
theorem TIs.len1 (h : TIs P T t i inf d z) (ha : i.agg = false) : i.size = 1 := by
  have h' := h.kind
  unfold tkOk at h'
  unfold TI.size
  split at h' <;> simp_all
theorem TIs.run_loadVar (h : TIs P T t i inf d z) (w : World) (a : Addr) (cs : List Value) (hl : cs.length = i.size) (hc : ∀ j v, cs[j]? = some v → w.cell? (a.add j) = some v) :
    (loadVar t a).run P w = .ok (if i.agg then .agg cs.toArray else cs.headD Go.undef) w := by
  unfold loadVar
  simp only [Sem.run_bind, h.run_isAgg, Result.andThen_ok]
  cases ha : i.agg with
  | true =>
    simp only [if_true, Sem.run_bind, h.run_sizeOf, Result.andThen_ok]
    rw [← hl, run_loadCells_list w a cs hc]
    rfl
  | false =>
    have := h.len1 ha
    obtain ⟨v, rfl⟩ : ∃ v, cs = [v] := by
      rw [this] at hl
      match cs, hl with
      | [v], _ => exact ⟨v, rfl⟩
    have hv := hc 0 v rfl
    simp only [Addr.add, if_true] at hv
    simp [run_load, hv]
theorem TIs.val_rel (h : TIs P T t i inf d z) {ρ : Mp} {lm : Lp} {vs : List AVal} {cs : List Value} (hl : vs.length = i.size) (hr : VRels ρ lm vs cs) :
    VRel ρ lm (i.val vs) (if i.agg then .agg cs.toArray else cs.headD Go.undef) := by
  unfold TI.val
  cases ha : i.agg with
  | true => simp only [if_true, VRel]; exact ⟨cs, rfl, hr⟩
  | false =>
    have h1 := h.len1 ha
    rw [h1] at hl
    match vs, hl with
    | [v], _ =>
      obtain ⟨u, us, rfl, hu, _⟩ := by simpa only [VRels] using hr
      simpa using hu
end

/-- What cells hold, told by their kinds. -/
theorem zs_rel {ρ : Mp} {lm : Lp} {zs : List AVal} {g : Nat → Option AVal} {cell : Nat → Option Value} (hg : ∀ m y, g m = some y → ∃ v, cell m = some v ∧ VRel ρ lm y v)
    (hz : ∀ m z, zs[m]? = some z → ∃ y, g (0 + m) = some y ∧ Refines y z) :
    ∃ vs, vs.length = zs.length ∧ VRels ρ lm zs vs ∧ ∀ m v, vs[m]? = some v → cell m = some v := by
  obtain ⟨vs, hvl, hv⟩ := exists_list (fun m v => cell m = some v ∧ ∀ u, zs[m]? = some u → VRel ρ lm u v) zs.length fun m hm => by
    obtain ⟨y, h1, h2⟩ := hz m zs[m] (by simp [hm])
    rw [Nat.zero_add] at h1
    obtain ⟨v, e, hr⟩ := hg m y h1
    refine ⟨v, e, fun u hu => ?_⟩
    simp [hm] at hu
    subst hu
    exact h2 ρ lm v hr
  refine ⟨vs, by omega, VRels.of_get (by omega) fun j x hx => ?_, fun m v hm => (hv m v hm).1⟩
  have hj := (List.getElem?_eq_some_iff.1 hx).1
  refine ⟨vs[j], by simp [hvl, hj], (hv j vs[j] (by simp [hvl, hj])).2 x hx⟩

/-! ### What is to be shown of an operation -/
/-- The program's variables are where they were. -/
def GRel (T : Tab) (ρ : Mp) : Prop := ∀ g, T.glob g = true → ∃ n, ρ g = some ⟨g, 0, n⟩
def LExt (lm lm' : Lp) (l : Locs) (w : World) (dst : Option Nat) : Prop := (∀ t k, lm t = some k → lm' t = some k) ∧ ∀ t k, lm t = none → lm' t = some k → dst = some t ∧ l[t]? = some .none ∧ w.heap.size ≤ k
theorem LExt.refl (lm : Lp) (l : Locs) (w : World) (dst : Option Nat) : LExt lm lm l w dst := ⟨fun _ _ h => h, fun _ _ h h' => by rw [h] at h'; cases h'⟩

def OpSound (P : Program) (T : Tab) (o : Oper) (e : Env) (l : Locs) (σ : Heap) (v : AVal) (l' : Locs) (σ' : Heap) : Prop :=
  ∀ (ρ : Mp) (lm : Lp) (a : Act) (w : World), HRel ρ σ w → LRel ρ lm l σ w → GRel T ρ → (∀ x ∈ o.op.operands.toList, VRel ρ lm (ev T e x) (a.eval x)) →
    ∀ (next : Act → World → Prop) (Q : Exit → Act → World → Prop),
      (∀ cv w' ρ' lm', HRel ρ' σ' w' → LRel ρ' lm' l' σ' w' → VRel ρ' lm' v cv → Step ρ lm l σ w ρ' lm' l' σ' w' → LExt lm lm' l w o.dst → next (a.put o.dst cv) w') → o.wp P a w next Q

section
variable {P : Program} {T : Tab} {o : Oper} {e : Env} {l l' : Locs} {σ σ' : Heap} {v : AVal}

theorem OpSound.of_run
    (h : ∀ (ρ : Mp) (lm : Lp) (a : Act) (w : World), HRel ρ σ w → LRel ρ lm l σ w → (∀ x ∈ o.op.operands.toList, VRel ρ lm (ev T e x) (a.eval x)) →
      ∃ n cv w' ρ' lm', (execOp a.eval o).run P w = .ok n w' ∧ (n = .value cv ∨ n = .skip ∧ cv = Go.undef) ∧ HRel ρ' σ' w' ∧ LRel ρ' lm' l' σ' w' ∧ VRel ρ' lm' v cv ∧ Step ρ lm l σ w ρ' lm' l' σ' w' ∧ LExt lm lm' l w o.dst) :
    OpSound P T o e l σ v l' σ' := by
  intro ρ lm a w hH hL _ ho next Q hn
  obtain ⟨n, cv, w', ρ', lm', hr, hv, h1, h2, h3, h4, h5⟩ := h ρ lm a w hH hL ho
  unfold Oper.wp
  rw [hr]
  rcases hv with rfl | ⟨rfl, rfl⟩
  · exact hn cv w' ρ' lm' h1 h2 h3 h4 h5
  · exact hn _ w' ρ' lm' h1 h2 h3 h4 h5

/-- Operations that leave all as it is. -/
theorem OpSound.pure
    (h : ∀ (ρ : Mp) (lm : Lp) (a : Act) (w : World), HRel ρ σ w → LRel ρ lm l σ w → (∀ x ∈ o.op.operands.toList, VRel ρ lm (ev T e x) (a.eval x)) →
      ∃ cv, (execOp a.eval o).run P w = .ok (.value cv) w ∧ VRel ρ lm v cv) : OpSound P T o e l σ v l σ :=
  OpSound.of_run fun ρ lm a w hH hL ho => by
    obtain ⟨cv, hr, hv⟩ := h ρ lm a w hH hL ho
    exact ⟨_, cv, w, ρ, lm, hr, .inl rfl, hH, hL, hv, Step.refl .., LExt.refl ..⟩
end

end Go.Abs
