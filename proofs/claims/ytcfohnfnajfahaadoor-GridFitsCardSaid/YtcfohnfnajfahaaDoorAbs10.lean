/-
Each operation: new memory.
-/
import Derived.Test.YtcfohnfnajfahaaDoorAbs9
namespace Go.Abs
open Go

theorem unfrozen0 (n : Nat) : Unfrozen (0, 0) n := fun j _ h => by simp at h

theorem alloc_get (w : World) (o : Obj) : (w.alloc o).heap[w.heap.size]? = some o := by
  show (w.heap.push o)[w.heap.size]? = _
  simp

section
variable {P : Program} {T : Tab} {R : Type} {o : Oper} {e : Env} {l : Locs} {σ : Heap} {k : AVal → Locs → Heap → Option R} {r : R}

/-- NEW CELLS, in the heap. -/
theorem new_row {ρ : Mp} {lm : Lp} {w : World} (hH : HRel ρ σ w) (hL : LRel ρ lm l σ w) (cs : List AVal) (c : Array Value) (ty : TypeId) (hr : VRels ρ noL cs (c.toList.take cs.length)) (hl : cs.length ≤ c.size) (h1 : Ones c) :
    HRel (upd ρ σ.length ⟨w.heap.size, 0, c.size⟩) (σ ++ [.row cs .rw]) (w.alloc (.cells c ty)) ∧ LRel (upd ρ σ.length ⟨w.heap.size, 0, c.size⟩) lm l (σ ++ [.row cs .rw]) (w.alloc (.cells c ty)) ∧
      Step ρ lm l σ w (upd ρ σ.length ⟨w.heap.size, 0, c.size⟩) lm l (σ ++ [.row cs .rw]) (w.alloc (.cells c ty)) := by
  refine new_block hH hL (.cells c ty) (.row cs .rw) c.size rfl rfl rfl rfl ⟨c, ty, (0, 0), alloc_get w _, rfl, by simpa using hl, fun j x hx => ?_, fun _ => unfrozen0 _, h1⟩ rfl
  obtain ⟨v, e1, r1⟩ := hr.get j x hx
  refine ⟨v, ?_, r1⟩
  have hj := (List.getElem?_eq_some_iff.1 hx).1
  rw [List.getElem?_take, if_pos hj] at e1
  simpa using e1

/-- New cells, of the frame's own. -/
theorem new_own {ρ : Mp} {lm : Lp} {w : World} (hH : HRel ρ σ w) (hL : LRel ρ lm l σ w) (d : Nat) (hd : l[d]? = some .none) (cs : List AVal) (c : Array Value) (ty : TypeId) (hr : VRels ρ noL cs c.toList) (h1 : Ones c) :
    HRel ρ σ (w.alloc (.cells c ty)) ∧ LRel ρ (upd lm d w.heap.size) (l.set d (.cells cs)) σ (w.alloc (.cells c ty)) ∧ Step ρ lm l σ w ρ (upd lm d w.heap.size) (l.set d (.cells cs)) σ (w.alloc (.cells c ty)) ∧
      LExt lm (upd lm d w.heap.size) l w (some d) := by
  have hn : lm d = none := by
    cases h : lm d with
    | none => rfl
    | some k' =>
      have := (hL.loc d k' h).2
      simp [List.getD, hd, LOne] at this
  obtain ⟨h1, h2, h3⟩ := new_local (w' := w.alloc (.cells c ty)) hH hL (.cells c ty) (.cells cs) d hn (List.getElem?_eq_some_iff.1 hd).1 rfl rfl rfl rfl ⟨c, ty, (0, 0), alloc_get w _, unfrozen0 _, hr, h1⟩
  refine ⟨h1, h2, h3, upd_ext _ hn, fun t k h0 h1 => ?_⟩
  by_cases e : t = d
  · subst e; rw [upd_same] at h1; injection h1 with h1; exact ⟨rfl, hd, by omega⟩
  · rw [upd_ne _ _ e, h0] at h1; cases h1

theorem snd_alloc (ok : TabOK P T) {f : FuncId} {t : TypeId} (hop : o.op = .alloc t) (h : ((T.ti t).bind fun i =>
      match o.dst with
      | some d => match T.loc f d with
        | true => match l[d]? with
          | some .none => k (.lptr d 0) (l.set d (.cells i.zeros)) σ
          | _ => none
        | false => k (.ptr (some (σ.length, 0))) l (σ ++ [.row i.zeros .rw])
      | none => none) = some r) : Snd P T o e l σ k r := by
  rw [Option.bind_eq_some_iff] at h
  obtain ⟨i, hi, h⟩ := h
  obtain ⟨inf, d', z, ti⟩ := ok.tis hi
  have run : ∀ (a : Act) (w : World), (execOp a.eval o).run P w = .ok (.value (.pointer (some ⟨w.heap.size, 0, none⟩))) (w.alloc (.cells z.cells t)) := fun a w => by
    simp only [execOp, hop, Instr.alloc, Sem.run_bind, ti.run_zeroValue, Result.andThen_ok, newVar, newRow, run_newObj, Sem.run_pure]
    rfl
  split at h
  · rename_i d hd
    split at h
    · split at h
      · rename_i hl
        refine ⟨_, _, _, h, .of_run fun ρ lm a w hH hL ho => ?_⟩
        obtain ⟨h1, h2, h3, h4⟩ := new_own hH hL d hl i.zeros z.cells t (ti.rel ρ noL) ti.ones
        refine ⟨_, _, _, _, _, run a w, .inl rfl, h1, h2, ?_, h3, by rw [hd]; exact h4⟩
        simp only [VRel]
        exact ⟨w.heap.size, upd_same _ _ _, rfl⟩
      · cases h
    · refine ⟨_, _, _, h, .of_run fun ρ lm a w hH hL ho => ?_⟩
      have hz := ti.rel ρ noL
      have hlen := hz.length
      have hsz : i.zeros.length ≤ z.cells.size := by rw [← Array.length_toList, hlen]; exact Nat.le_refl _
      obtain ⟨h1, h2, h3⟩ := new_row hH hL i.zeros z.cells t (by rw [List.take_of_length_le (by rw [hlen]; exact Nat.le_refl _)]; exact hz) hsz ti.ones
      refine ⟨_, _, _, _, _, run a w, .inl rfl, h1, h2, ?_, h3, LExt.refl ..⟩
      simp only [VRel]
      exact ⟨_, upd_same _ _ _, rfl⟩
  · cases h

theorem snd_box {f : FuncId} {t : TypeId} {x : Operand} (hop : o.op = .box t x) (h : ((T.ti t).bind fun _ =>
      match cellAll (ev T e x).cells with
      | true => match o.dst with
        | some d => match T.loc f d with
          | true => match l[d]? with
            | some .none => k (.lptr d 0) (l.set d (.cells (ev T e x).cells)) σ
            | _ => none
          | false => k (.ptr (some (σ.length, 0))) l (σ ++ [.row (ev T e x).cells .rw])
        | none => none
      | false => none) = some r) : Snd P T o e l σ k r := by
  rw [Option.bind_eq_some_iff] at h
  obtain ⟨i, hi, h⟩ := h
  have run : ∀ (a : Act) (w : World), (execOp a.eval o).run P w = .ok (.value (.pointer (some ⟨w.heap.size, 0, none⟩))) (w.alloc (.cells (a.eval x).cells t)) := fun a w => by
    simp only [execOp, hop, Instr.box, Sem.run_bind, Result.andThen_ok, newVar, newRow, run_newObj, Sem.run_pure]
    rfl
  split at h
  · rename_i hc
    have ones : ∀ {ρ : Mp} {lm : Lp} {a : Act}, (∀ y ∈ o.op.operands.toList, VRel ρ lm (ev T e y) (a.eval y)) → Ones (a.eval x).cells := fun ho =>
      oneCells (cells_rel (ho x (by simp [hop, Op.operands])) hc) hc
    have rel : ∀ {ρ : Mp} {lm : Lp} {a : Act}, (∀ y ∈ o.op.operands.toList, VRel ρ lm (ev T e y) (a.eval y)) → VRels ρ noL (ev T e x).cells (a.eval x).cells.toList := fun ho =>
      (cells_rel (ho x (by simp [hop, Op.operands])) hc).noLoc (noLocs_of_cellAll hc)
    split at h
    · rename_i d hd
      split at h
      · split at h
        · rename_i hl
          refine ⟨_, _, _, h, .of_run fun ρ lm a w hH hL ho => ?_⟩
          obtain ⟨h1, h2, h3, h4⟩ := new_own hH hL d hl _ _ t (rel ho) (ones ho)
          refine ⟨_, _, _, _, _, run a w, .inl rfl, h1, h2, ?_, h3, by rw [hd]; exact h4⟩
          simp only [VRel]
          exact ⟨w.heap.size, upd_same _ _ _, rfl⟩
        · cases h
      · refine ⟨_, _, _, h, .of_run fun ρ lm a w hH hL ho => ?_⟩
        have hz := rel ho
        have hlen := hz.length
        obtain ⟨h1, h2, h3⟩ := new_row hH hL _ (a.eval x).cells t (by rw [List.take_of_length_le (by rw [hlen]; exact Nat.le_refl _)]; exact hz) (by rw [← Array.length_toList, hlen]; exact Nat.le_refl _) (ones ho)
        refine ⟨_, _, _, _, _, run a w, .inl rfl, h1, h2, ?_, h3, LExt.refl ..⟩
        simp only [VRel]
        exact ⟨_, upd_same _ _ _, rfl⟩
    · cases h
  · cases h

/-! ### Literals -/
def overwriteV : List Value → Nat → List Value → List Value
  | cs, _, [] => cs
  | cs, o, v :: vs => overwriteV (cs.set o v) (o + 1) vs
theorem overwrite_rel {ρ : Mp} {lm : Lp} : ∀ {xs : List AVal} {vs : List Value} {cs : List AVal} {us : List Value} {o : Nat}, VRels ρ lm xs vs → VRels ρ lm cs us → VRels ρ lm (overwrite cs o xs) (overwriteV us o vs)
  | [], _, cs, us, o, h, h' => by simp only [VRels] at h; subst h; exact h'
  | x :: xs, _, cs, us, o, h, h' => by
    obtain ⟨v, vs, rfl, h1, h2⟩ := by simpa only [VRels] using h
    simp only [overwrite, overwriteV]
    refine overwrite_rel h2 (VRels.of_get (by simp [h'.length]) fun j y hy => ?_)
    by_cases e : j = o
    · subst e
      have hj : j < cs.length := by have := (List.getElem?_eq_some_iff.1 hy).1; simpa using this
      simp [hj] at hy
      subst hy
      exact ⟨v, by simp [h'.length, hj], h1⟩
    · rw [List.getElem?_set_ne (Ne.symm e)] at hy ⊢
      exact h'.get j y hy

theorem foldl_overwrite : ∀ (vs : List Value) (m off : Nat) (cs : Array Value), ((vs.zipIdx m).foldl (fun (cs : Array Value) (p : Value × Nat) => cs.setIfInBounds (off + p.2) p.1) cs).toList = overwriteV cs.toList (off + m) vs
  | [], _, _, _ => rfl
  | v :: vs, m, off, cs => by
    rw [List.zipIdx_cons, List.foldl_cons, foldl_overwrite vs (m + 1) off]
    simp [overwriteV, Nat.add_assoc]

theorem fillC_rel {ρ : Mp} {lm : Lp} {place : Nat → Option (Nat × Nat)} {place' : Nat → Option (Nat × Nat)} (hp : ∀ j p, place j = some p → place' j = some p) :
    ∀ {parts : List (Nat × AVal)} {parts' : List (Nat × Value)} {cs cs' : List AVal} {us : Array Value}, parts'.length = parts.length →
      (∀ (j : Nat) (p : Nat × AVal), parts[j]? = some p → ∃ v, parts'[j]? = some (p.1, v) ∧ VRel ρ lm p.2 v ∧ VRels ρ lm p.2.cells v.cells.toList) → VRels ρ lm cs us.toList → fillC place cs parts = some cs' →
      ∃ us', Instr.fill place' us parts' = some us' ∧ VRels ρ lm cs' us'.toList
  | [], parts', cs, cs', us, hl, _, hr, h => by
    obtain rfl := List.eq_nil_of_length_eq_zero hl
    simp only [fillC, Option.some.injEq] at h
    subst h
    exact ⟨us, rfl, hr⟩
  | (i, v) :: rest, [], _, _, _, hl, _, _, _ => by simp at hl
  | (i, v) :: rest, (i', v') :: rest', cs, cs', us, hl, hv, hr, h => by
    obtain ⟨u, e1, r1, r2⟩ := hv 0 (i, v) rfl
    simp at e1
    obtain ⟨rfl, rfl⟩ := e1
    simp only [fillC] at h
    split at h
    · cases h
    · rename_i off size hpl
      split at h
      · rename_i hs
        split at h
        · rename_i hb
          have hlu := hr.length
          have hlv := r2.length
          simp only [Instr.fill, hp _ _ hpl]
          rw [if_neg (by simp at hlu hlv ⊢; omega)]
          refine fillC_rel hp (by simpa using hl) (fun j p hj => hv (j + 1) p (by simpa using hj)) ?_ h
          have := foldl_overwrite v'.cells.toList 0 off us
          rw [Nat.add_zero] at this
          rw [← Array.foldl_toList, Array.toList_zipIdx, this]
          exact overwrite_rel r2 hr
        · cases h
      · cases h

theorem fillC_len {place : Nat → Option (Nat × Nat)} : ∀ {parts : List (Nat × AVal)} {cs cs' : List AVal}, fillC place cs parts = some cs' → cs'.length = cs.length
  | [], cs, cs', h => by simp only [fillC, Option.some.injEq] at h; rw [h]
  | (i, v) :: rest, cs, cs', h => by
    simp only [fillC] at h
    split at h
    · cases h
    · split at h
      · split at h
        · rw [fillC_len h, overwrite_length]
        · cases h
      · cases h

theorem cellAll_of : ∀ {cs : List AVal}, (∀ x ∈ cs, x.isCell = true) → cellAll cs = true
  | [], _ => rfl
  | c :: cs, h => by
    have h1 := h c (by simp)
    have h2 : cellAll cs = true := cellAll_of fun x hx => h x (List.mem_cons_of_mem _ hx)
    simp [cellAll, h1, h2]
theorem mem_overwrite : ∀ {xs cs : List AVal} {o : Nat} {y : AVal}, y ∈ overwrite cs o xs → y ∈ xs ∨ y ∈ cs
  | [], _, _, _, h => .inr h
  | x :: xs, cs, o, y, h => by
    simp only [overwrite] at h
    rcases mem_overwrite h with h | h
    · exact .inl (by simp [h])
    · rcases List.mem_or_eq_of_mem_set h with h | h
      · exact .inr h
      · exact .inl (by simp [h])
theorem fillC_cells {place : Nat → Option (Nat × Nat)} : ∀ {parts : List (Nat × AVal)} {cs cs' : List AVal}, (∀ p ∈ parts, cellAll p.2.cells = true) → cellAll cs = true → fillC place cs parts = some cs' → cellAll cs' = true
  | [], cs, cs', _, hc, h => by simp only [fillC, Option.some.injEq] at h; rw [← h]; exact hc
  | (i, v) :: rest, cs, cs', hp, hc, h => by
    simp only [fillC] at h
    split at h
    · cases h
    · split at h
      · split at h
        · refine fillC_cells (fun p hp' => hp p (by simp [hp'])) (cellAll_of fun x hx => ?_) h
          rcases mem_overwrite hx with hx | hx
          · exact cellAll_mem (hp (i, v) (by simp)) x hx
          · exact cellAll_mem hc x hx
        · cases h
      · cases h
theorem cellAll_zeros (i : TI) : cellAll i.zeros = true := cellAll_of fun x hx => by
  obtain ⟨s, _, rfl⟩ := List.mem_map.1 hx
  cases s <;> rfl
theorem cellAll_flat {xs : List AVal} (h : cellAll xs = true) (n : Nat) : cellAll ((List.replicate n xs).flatten) = true := cellAll_of fun x hx => by
  obtain ⟨ys, hy, hx⟩ := List.mem_flatten.1 hx
  obtain ⟨_, e⟩ := List.mem_replicate.1 hy
  rw [e] at hx
  exact cellAll_mem h x hx

theorem parts_rel {ρ : Mp} {lm : Lp} {A : Act} {parts : Array (Nat × Operand)} (ho : ∀ p ∈ parts.toList, VRel ρ lm (ev T e p.2) (A.eval p.2)) (hc : partsOk T e parts = true) :
    ((parts.map fun p => (p.1, A.eval p.2)).toList.length = (parts.toList.map fun p => (p.1, ev T e p.2)).length) ∧
    ∀ (j : Nat) (p : Nat × AVal), (parts.toList.map fun p => (p.1, ev T e p.2))[j]? = some p → ∃ v, (parts.map fun p => (p.1, A.eval p.2)).toList[j]? = some (p.1, v) ∧ VRel ρ noL p.2 v ∧ VRels ρ noL p.2.cells v.cells.toList := by
  refine ⟨by simp, fun j p hp => ?_⟩
  simp only [List.getElem?_map, Option.map_eq_some_iff] at hp
  obtain ⟨q, hq, rfl⟩ := hp
  have hm := List.mem_of_getElem? hq
  have h1 := ho q hm
  have h2 : cellAll (ev T e q.2).cells = true := by
    have := List.all_eq_true.1 hc q hm
    simpa using this
  refine ⟨A.eval q.2, by simp [Array.toList_map, hq], ?_, (cells_rel h1 h2).noLoc (noLocs_of_cellAll h2)⟩
  refine h1.noLoc ?_
  have := noLocs_of_cellAll h2
  cases hx : ev T e q.2 <;> rw [hx] at this <;> first | (simpa [AVal.cells, noLocs] using this) | (simpa [AVal.cells, noLocs, AVal.noLoc] using this)

end
end Go.Abs
