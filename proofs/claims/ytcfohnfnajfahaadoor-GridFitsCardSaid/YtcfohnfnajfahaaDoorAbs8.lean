/-
Each operation: addresses, loads, stores, new memory.
-/
import Derived.Test.YtcfohnfnajfahaaDoorAbs7
namespace Go.Abs
open Go

section
variable {P : Program} {T : Tab} {R : Type} {o : Oper} {e : Env} {l : Locs} {σ : Heap} {k : AVal → Locs → Heap → Option R} {r : R}

theorem snd_nilCheck {x : Operand} (hop : o.op = .nilCheck x) (h : (match ev T e x with
      | .ptr p => p.bind fun q => k (.ptr (some q)) l σ
      | .lptr s o => k (.lptr s o) l σ
      | .func (.func g) cs => k (.func (.func g) cs) l σ
      | _ => none) = some r) : Snd P T o e l σ k r := by
  split at h
  · rename_i p hx
    obtain ⟨q, hq, h⟩ := Option.bind_eq_some_iff.1 h
    refine ⟨_, _, _, h, .pure fun ρ lm a w _ _ ho => ⟨a.eval x, ?_⟩⟩
    have h1 := ho x (by simp [hop, Op.operands])
    rw [hx, hq] at h1
    obtain ⟨b, o'⟩ := q
    obtain ⟨pl, hp, hv⟩ := by simpa only [VRel] using h1
    exact ⟨by simp [execOp, hop, hv], h1⟩
  · rename_i s o' hx
    refine ⟨_, _, _, h, .pure fun ρ lm a w _ _ ho => ⟨a.eval x, ?_⟩⟩
    have h1 := ho x (by simp [hop, Op.operands])
    rw [hx] at h1
    obtain ⟨k', hp, hv⟩ := by simpa only [VRel] using h1
    exact ⟨by simp [execOp, hop, hv], h1⟩
  · rename_i g cs hx
    refine ⟨_, _, _, h, .pure fun ρ lm a w _ _ ho => ⟨a.eval x, ?_⟩⟩
    have h1 := ho x (by simp [hop, Op.operands])
    rw [hx] at h1
    obtain ⟨vs, hv, _⟩ := by simpa only [VRel] using h1
    exact ⟨by simp [execOp, hop, hv], h1⟩
  · cases h

theorem LOne.of_cells {ρ : Mp} {k : Nat} {w : World} {l : Locs} {s : Nat} {cs : List AVal} (h : LOne ρ k w (l.getD s .none)) (hs : (l[s]?).bind LBlk.cells? = some cs) :
    ∃ c ty fr, w.heap[k]? = some (.cells c ty fr) ∧ Unfrozen fr c.size ∧ VRels ρ noL cs c.toList ∧ Ones c := by
  obtain ⟨x, hx, hc⟩ := Option.bind_eq_some_iff.1 hs
  have hs' : l.getD s .none = x := by simp [List.getD, hx]
  rw [hs'] at h
  unfold LBlk.cells? at hc
  split at hc
  · injection hc with hc; subst hc; exact h
  · injection hc with hc; subst hc; exact h
  · cases hc

theorem snd_load (ok : TabOK P T) {t : TypeId} {a : Operand} (hop : o.op = .load t a) (h : ((T.ti t).bind fun i =>
      match ev T e a with
      | .ptr p => p.bind fun q => fetches i.shape (fun j => σ.cell? q.1 (q.2 + j)) 0 fun vs => k (i.val vs) l σ
      | .lptr s o => match (l[s]?).bind LBlk.cells? with
        | some cs => fetches i.shape (fun j => cs[o + j]?) 0 fun vs => k (i.val vs) l σ
        | _ => none
      | _ => none) = some r) : Snd P T o e l σ k r := by
  obtain ⟨i, hi, h⟩ := Option.bind_eq_some_iff.1 h
  obtain ⟨inf, d, z, ti⟩ := ok.tis hi
  split at h
  · rename_i p hx
    obtain ⟨⟨b, o'⟩, hq, h⟩ := Option.bind_eq_some_iff.1 h
    obtain ⟨zs, hk, hl, hz⟩ := fetches_some h
    refine ⟨_, _, _, hk, .pure fun ρ lm A w hH hL ho => ?_⟩
    have h1 := ho a (by simp [hop, Op.operands])
    rw [hx, hq] at h1
    obtain ⟨pl, hp, hv⟩ := by simpa only [VRel] using h1
    obtain ⟨vs, l2, hr, hc⟩ := zs_rel (ρ := ρ) (lm := noL) (cell := fun m => w.cell? ⟨pl.blk, pl.off + (o' + m), none⟩) (fun m y hy => cell_rel hH hp hy) hz
    refine ⟨if i.agg then .agg vs.toArray else vs.headD Go.undef, ?_, ti.val_rel hl (hr.any lm)⟩
    have := ti.run_loadVar w ⟨pl.blk, pl.off + o', none⟩ vs (l2.trans hl) (fun j v hj => by rw [add_none, Nat.add_assoc]; exact hc j v hj)
    simp [execOp, hop, hv, Instr.loadAt, Instr.sureAddr, this]
  · rename_i s o' hx
    split at h
    · rename_i cs hs
      obtain ⟨zs, hk, hl, hz⟩ := fetches_some h
      refine ⟨_, _, _, hk, .pure fun ρ lm A w hH hL ho => ?_⟩
      have h1 := ho a (by simp [hop, Op.operands])
      rw [hx] at h1
      obtain ⟨b, hb, hv⟩ := by simpa only [VRel] using h1
      obtain ⟨_, h2⟩ := hL.loc s b hb
      obtain ⟨c, ty, fr, g1, g2, g3, _⟩ := h2.of_cells hs
      obtain ⟨vs, l2, hr, hc⟩ := zs_rel (ρ := ρ) (lm := noL) (cell := fun m => w.cell? ⟨b, o' + m, none⟩) (fun m y hy => by
        obtain ⟨v, e, hr⟩ := g3.get _ y hy
        exact ⟨v, by simpa [World.cell?, g1] using e, hr⟩) hz
      refine ⟨if i.agg then .agg vs.toArray else vs.headD Go.undef, ?_, ti.val_rel hl (hr.any lm)⟩
      have := ti.run_loadVar w ⟨b, o', none⟩ vs (l2.trans hl) (fun j v hj => by rw [add_none]; exact hc j v hj)
      simp [execOp, hop, hv, Instr.loadAt, Instr.sureAddr, this]
    · cases h
  · cases h

/-- The cells of a value, on both sides. -/
theorem cells_rel {ρ : Mp} {lm : Lp} {x : AVal} {v : Value} (h : VRel ρ lm x v) (hc : cellAll x.cells = true) : VRels ρ lm x.cells v.cells.toList := by
  cases x with
  | agg cs =>
    obtain ⟨vs, rfl, hr⟩ := by simpa only [VRel] using h
    simpa [AVal.cells, Value.cells] using hr
  | _ =>
    simp only [AVal.cells, cellAll, Bool.and_true] at hc
    have h1 := VRel.oneCell h hc
    have h2 : v.cells = #[v] := by cases v <;> simp_all [Value.oneCell', Value.cells]
    rw [h2]
    simp only [AVal.cells, VRels]
    exact ⟨v, [], rfl, h, rfl⟩

theorem cellAll_mem : ∀ {cs : List AVal}, cellAll cs = true → ∀ x ∈ cs, x.isCell = true
  | [], _, x, hx => by cases hx
  | c :: cs, h, x, hx => by
    simp only [cellAll, Bool.and_eq_true] at h
    rcases List.mem_cons.1 hx with rfl | hx
    · exact h.1
    · exact cellAll_mem h.2 x hx
theorem noLocs_of_cellAll : ∀ {cs : List AVal}, cellAll cs = true → noLocs cs = true
  | [], _ => rfl
  | c :: cs, h => by
    simp only [cellAll, Bool.and_eq_true] at h
    simp [noLocs, AVal.isCell_noLoc h.1, noLocs_of_cellAll h.2]
theorem oneCells {ρ : Mp} {lm : Lp} : ∀ {cs : List AVal} {vs : List Value}, VRels ρ lm cs vs → cellAll cs = true → ∀ v ∈ vs, v.oneCell' = true
  | [], _, h, _, v, hv => by simp only [VRels] at h; subst h; cases hv
  | c :: cs, _, h, hc, v, hv => by
    obtain ⟨u, us, rfl, h1, h2⟩ := by simpa only [VRels] using h
    simp only [cellAll, Bool.and_eq_true] at hc
    rcases List.mem_cons.1 hv with rfl | hv
    · exact VRel.oneCell h1 hc.1
    · exact oneCells h2 hc.2 v hv

theorem brel_write {ρ : Mp} {pl : Pl} {w w' : World} {cs xs : List AVal} {vs : List Value} {o' : Nat} {c c' : Array Value} {ty : TypeId} {fr : Nat × Nat}
    (h2 : c.size = pl.size) (h3 : pl.off + cs.length ≤ c.size) (h4 : ∀ j x, cs[j]? = some x → ∃ v, c[pl.off + j]? = some v ∧ VRel ρ noL x v) (h5 : Unfrozen fr c.size) (h6 : Ones c)
    (hl : o' + xs.length ≤ cs.length) (hr : VRels ρ noL xs vs) (h1 : ∀ v ∈ vs, v.oneCell' = true) (hw : Wrote w w' pl.blk (pl.off + o') vs c c' ty fr) : BRel ρ pl w' (.row (overwrite cs o' xs) .rw) := by
  have hvl := hr.length
  refine ⟨c', ty, fr, hw.heap, hw.size.trans h2, by rw [overwrite_length, hw.size]; exact h3, fun j x hx => ?_, fun _ => by rw [hw.size]; exact h5, hw.ones h6 h1⟩
  rw [overwrite_get _ _ _ _ hl] at hx
  rw [hw.at_]
  by_cases hj : o' ≤ j ∧ j < o' + xs.length
  · rw [if_pos hj] at hx
    rw [if_pos (by omega)]
    obtain ⟨v, e, r⟩ := hr.get _ x hx
    exact ⟨v, by rw [show pl.off + j - (pl.off + o') = j - o' by omega]; exact e, r⟩
  · rw [if_neg hj] at hx
    rw [if_neg (by omega)]
    exact h4 j x hx

theorem store_some {σ σ' : Heap} {b o' : Nat} {xs : List AVal} (h : σ.store b o' xs = some σ') : ∃ cs, σ[b]? = some (.row cs .rw) ∧ o' + xs.length ≤ cs.length ∧ σ' = σ.set b (.row (overwrite cs o' xs) .rw) := by
  unfold Heap.store at h
  split at h
  · rename_i cs hb
    split at h
    · rename_i hl
      injection h with h
      exact ⟨cs, hb, hl, h.symm⟩
    · cases h
  · cases h

/-- A STORE INTO A BLOCK. -/
theorem heap_store {ρ : Mp} {lm : Lp} {l : Locs} {σ σ' : Heap} {w : World} (hH : HRel ρ σ w) (hL : LRel ρ lm l σ w) {b o' : Nat} {xs : List AVal} {vs : List Value} {pl : Pl} (hp : ρ b = some pl)
    (h : σ.store b o' xs = some σ') (hr : VRels ρ noL xs vs) (h1 : ∀ v ∈ vs, v.oneCell' = true) :
    (storeCells ⟨pl.blk, pl.off + o', none⟩ vs).run P w = .ok () (w.setCells pl.blk (pl.off + o') vs) ∧
      HRel ρ σ' (w.setCells pl.blk (pl.off + o') vs) ∧ LRel ρ lm l σ' (w.setCells pl.blk (pl.off + o') vs) ∧ Step ρ lm l σ w ρ lm l σ' (w.setCells pl.blk (pl.off + o') vs) := by
  obtain ⟨cs, hb, hl, rfl⟩ := store_some h
  obtain ⟨x, hx, hB⟩ := hH.blk b pl hp
  rw [hb] at hx
  injection hx with hx
  subst hx
  obtain ⟨c, ty, fr, g1, g2, g3, g4, g5, g6⟩ := hB
  have hvl := hr.length
  obtain ⟨c', hw⟩ := setCells_wrote vs w pl.blk (pl.off + o') c ty fr g1 (by omega)
  refine ⟨run_store_block w pl.blk (pl.off + o') vs c ty fr g1 (by omega) (g5 rfl) h1, ?_⟩
  exact turn_block hH hL b pl _ (.row (overwrite cs o' xs) .rw) hp hb rfl (brel_write g2 g3 g4 (g5 rfl) g6 hl hr h1 hw) (.inl rfl) hw.os hw.tape hw.output hw.hsize hw.old

/-- A store into a place of the frame's own. -/
theorem local_store {ρ : Mp} {lm : Lp} {l : Locs} {σ : Heap} {w : World} (hH : HRel ρ σ w) (hL : LRel ρ lm l σ w) {t b o' : Nat} {cs xs : List AVal} {vs : List Value} (hp : lm t = some b) (ht : l[t]? = some (.cells cs))
    (hl : o' + xs.length ≤ cs.length) (hr : VRels ρ noL xs vs) (h1 : ∀ v ∈ vs, v.oneCell' = true) :
    (storeCells ⟨b, o', none⟩ vs).run P w = .ok () (w.setCells b o' vs) ∧
      HRel ρ σ (w.setCells b o' vs) ∧ LRel ρ lm (l.set t (.cells (overwrite cs o' xs))) σ (w.setCells b o' vs) ∧ Step ρ lm l σ w ρ lm (l.set t (.cells (overwrite cs o' xs))) σ (w.setCells b o' vs) := by
  obtain ⟨_, h2⟩ := hL.loc t b hp
  have hs' : l.getD t .none = .cells cs := by simp [List.getD, ht]
  rw [hs'] at h2
  obtain ⟨c, ty, fr, g1, g2, g3, g6⟩ := h2
  have hvl := hr.length
  have hcl := g3.length
  simp at hcl
  obtain ⟨c', hw⟩ := setCells_wrote vs w b o' c ty fr g1 (by omega)
  refine ⟨run_store_block w b o' vs c ty fr g1 (by omega) g2 h1, ?_⟩
  refine turn_local hH hL t b _ hp (List.getElem?_eq_some_iff.1 ht).1 (by rw [hs']; rfl) ⟨c', ty, fr, hw.heap, by rw [hw.size]; exact g2, ?_, hw.ones g6 h1⟩ hw.os hw.tape hw.output hw.hsize hw.old
  refine VRels.of_get (by simp [hw.size, overwrite_length, hcl]) fun j x hx => ?_
  rw [overwrite_get _ _ _ _ hl] at hx
  rw [Array.getElem?_toList, hw.at_]
  by_cases hj : o' ≤ j ∧ j < o' + xs.length
  · rw [if_pos hj] at hx
    rw [if_pos (by omega)]
    exact hr.get _ x hx
  · rw [if_neg hj] at hx
    rw [if_neg (by omega)]
    simpa using g3.get j x hx

theorem snd_store (ok : TabOK P T) {t : TypeId} {a x : Operand} (hop : o.op = .store t a x) (h : ((T.ti t).bind fun i =>
      match cellAll (ev T e x).cells && decide ((ev T e x).cells.length = i.size) with
      | true => match ev T e a with
        | .ptr p => p.bind fun q => (σ.store q.1 q.2 (ev T e x).cells).bind fun σ' => k .void l σ'
        | .lptr s o => match l[s]? with
          | some (.cells cs) => match decide (o + i.size ≤ cs.length) with
            | true => k .void (l.set s (.cells (overwrite cs o (ev T e x).cells))) σ
            | false => none
          | _ => none
        | _ => none
      | false => none) = some r) : Snd P T o e l σ k r := by
  obtain ⟨i, hi, h⟩ := Option.bind_eq_some_iff.1 h
  obtain ⟨inf, d, z, ti⟩ := ok.tis hi
  split at h
  · rename_i hc
    simp only [Bool.and_eq_true, decide_eq_true_eq] at hc
    split at h
    · rename_i p hx
      obtain ⟨⟨b, o'⟩, hq, h⟩ := Option.bind_eq_some_iff.1 h
      obtain ⟨σ', hs, h⟩ := Option.bind_eq_some_iff.1 h
      refine ⟨_, _, _, h, .of_run fun ρ lm A w hH hL ho => ?_⟩
      have h1 := ho a (by simp [hop, Op.operands])
      have h2 := ho x (by simp [hop, Op.operands])
      rw [hx, hq] at h1
      obtain ⟨pl, hp, hv⟩ := by simpa only [VRel] using h1
      have hr := cells_rel h2 hc.1
      have hr' : VRels ρ noL (ev T e x).cells (A.eval x).cells.toList := hr.noLoc (noLocs_of_cellAll hc.1)
      obtain ⟨q1, q2, q3, q4⟩ := heap_store (P := P) hH hL hp hs hr' (oneCells hr hc.1)
      have hl := hr.length
      refine ⟨.skip, Go.undef, _, ρ, lm, ?_, .inr ⟨rfl, rfl⟩, q2, q3, by simp [VRel], q4, LExt.refl ..⟩
      simp only [execOp, hop, hv, Instr.storeAt, Instr.sureAddr, storeVar, Sem.run_bind, Sem.run_pure, Result.andThen_ok, ti.run_sizeOf]
      rw [if_neg (by rw [← Array.length_toList, hl, hc.2]; simp)]
      rw [q1]
      rfl
    · rename_i s o' hx
      split at h
      · rename_i cs hs
        split at h
        · rename_i hb
          simp only [decide_eq_true_eq] at hb
          refine ⟨_, _, _, h, .of_run fun ρ lm A w hH hL ho => ?_⟩
          have h1 := ho a (by simp [hop, Op.operands])
          have h2 := ho x (by simp [hop, Op.operands])
          rw [hx] at h1
          obtain ⟨b, hp, hv⟩ := by simpa only [VRel] using h1
          have hr := cells_rel h2 hc.1
          have hr' : VRels ρ noL (ev T e x).cells (A.eval x).cells.toList := hr.noLoc (noLocs_of_cellAll hc.1)
          obtain ⟨q1, q2, q3, q4⟩ := local_store (P := P) hH hL hp hs (by rw [hc.2]; exact hb) hr' (oneCells hr hc.1)
          have hl := hr.length
          refine ⟨.skip, Go.undef, _, ρ, lm, ?_, .inr ⟨rfl, rfl⟩, q2, q3, by simp [VRel], q4, LExt.refl ..⟩
          simp only [execOp, hop, hv, Instr.storeAt, Instr.sureAddr, storeVar, Sem.run_bind, Sem.run_pure, Result.andThen_ok, ti.run_sizeOf]
          rw [if_neg (by rw [← Array.length_toList, hl, hc.2]; simp)]
          rw [q1]
          rfl
        · cases h
      · cases h
    · cases h
  · cases h

end
end Go.Abs
