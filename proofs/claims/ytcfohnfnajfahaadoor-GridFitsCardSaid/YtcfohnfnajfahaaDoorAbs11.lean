/-
Each operation: literals, slices made, slices that grow.
-/
import Derived.Test.YtcfohnfnajfahaaDoorAbs10
namespace Go.Abs
open Go

theorem flat_get {α : Type} (xs : List α) : ∀ (n j : Nat), j < n * xs.length → ((List.replicate n xs).flatten)[j]? = xs[j % xs.length]?
  | 0, j, h => by simp at h
  | n + 1, j, h => by
    rw [List.replicate_succ, List.flatten_cons]
    rcases Nat.lt_or_ge j xs.length with hj | hj
    · rw [List.getElem?_append_left hj, Nat.mod_eq_of_lt hj]
    · rw [List.getElem?_append_right hj, flat_get xs n (j - xs.length) (by rw [Nat.succ_mul] at h; omega)]
      congr 1
      exact (Nat.mod_eq_sub_mod hj).symm
theorem flat_len {α : Type} (xs : List α) (n : Nat) : ((List.replicate n xs).flatten).length = n * xs.length := by
  simp

/-- Zero cells, so many. -/
theorem zeros_rel {ρ : Mp} {lm : Lp} {xs : List AVal} {z : Array Value} (h : VRels ρ lm xs z.toList) (n m : Nat) (hm : m = n * xs.length) :
    VRels ρ lm ((List.replicate n xs).flatten) ((Array.range m).map (fun j => z[j % z.size]!)).toList := by
  have hl := h.length
  have hz : z.size = xs.length := by rw [← hl]; simp
  refine VRels.of_get (by simp [hm]) fun j x hx => ?_
  have hj : j < n * xs.length := by
    have := (List.getElem?_eq_some_iff.1 hx).1
    rwa [flat_len] at this
  rw [flat_get _ _ _ hj] at hx
  obtain ⟨v, hv, hr⟩ := h.get _ x hx
  refine ⟨v, ?_, hr⟩
  have hlt : j % xs.length < z.size := by rw [hz]; exact Nat.mod_lt _ (Nat.pos_of_ne_zero fun e => by rw [e] at hj; simp at hj)
  simp only [Array.toList_map, List.getElem?_map, Array.getElem?_toList]
  have : (Array.range m)[j]? = some j := by simp [hm, hj]
  rw [this]
  simp only [Option.map_some, hz]
  rw [getElem!_pos z _ hlt]
  rw [Array.getElem?_toList] at hv
  rw [Array.getElem?_eq_getElem hlt] at hv
  exact hv

section
variable {P : Program} {T : Tab} {R : Type} {o : Oper} {e : Env} {l : Locs} {σ : Heap} {k : AVal → Locs → Heap → Option R} {r : R}

theorem run_mapM_list {α β : Type} (f : α → Sem β) (g : α → β) (w : World) : ∀ (xs : List α), (∀ x ∈ xs, (f x).run P w = .ok (g x) w) → (xs.mapM f).run P w = .ok (xs.map g) w
  | [], _ => by simp
  | x :: xs, h => by
    simp only [List.mapM_cons, Sem.run_bind, h x (by simp), Result.andThen_ok, run_mapM_list f g w xs (fun y hy => h y (by simp [hy])), Sem.run_pure, List.map_cons]
theorem run_mapM_array {α β : Type} (f : α → Sem β) (g : α → β) (w : World) (xs : Array α) (h : ∀ x ∈ xs.toList, (f x).run P w = .ok (g x) w) : (xs.mapM f).run P w = .ok (xs.map g) w := by
  rw [Array.mapM_eq_mapM_toList, Sem.run_map, run_mapM_list f g w xs.toList h]
  simp only [Result.andThen_ok]
  congr 1
  apply Array.ext'
  simp

theorem snd_build (ok : TabOK P T) {t : TypeId} {parts : Array (Nat × Operand)} (hop : o.op = .build t parts) (h : ((T.ti t).bind fun i =>
      match partsOk T e parts with
      | true => match i.kind with
        | .struct fs => (fillC (fun j => (fs[j]?).bind fun p => (T.ti p.2).map fun i => (p.1, i.size)) i.zeros (parts.toList.map fun p => (p.1, ev T e p.2))).bind fun cs => k (.agg cs) l σ
        | .array _ et => (T.ti et).bind fun ie => (fillC (fun j => some (j * ie.size, ie.size)) i.zeros (parts.toList.map fun p => (p.1, ev T e p.2))).bind fun cs => k (.agg cs) l σ
        | _ => none
      | false => none) = some r) : Snd P T o e l σ k r := by
  rw [Option.bind_eq_some_iff] at h
  obtain ⟨i, hi, h⟩ := h
  obtain ⟨inf, d, z, ti⟩ := ok.tis hi
  split at h
  · rename_i hc
    have hops : ∀ p ∈ parts.toList, p.2 ∈ o.op.operands.toList := fun p hp => by
      simp only [hop, Op.operands]
      exact List.mem_map.2 ⟨p, hp, rfl⟩
    split at h
    · rename_i fs hk
      obtain ⟨fs', rfl, ha, hf⟩ := ti.struct hk
      rw [Option.bind_eq_some_iff] at h
      obtain ⟨cs, hcs, h⟩ := h
      refine ⟨_, _, _, h, .pure fun ρ lm A w _ _ ho => ?_⟩
      obtain ⟨p1, p2⟩ := parts_rel (ρ := ρ) (lm := lm) (A := A) (fun p hp => ho _ (hops p hp)) hc
      have hsz : ∀ f ∈ fs'.toList, (do pure (f.offset, ← sizeOf f.type) : Sem (Nat × Nat)).run P w = .ok (f.offset, ((P.info? f.type).map (·.size)).getD 0) w := fun f hf' => by
        obtain ⟨j, hj⟩ := List.mem_iff_getElem?.1 hf'
        have hlen := fieldsOk_len hf
        have hj' : j < fs.length := by have := (List.getElem?_eq_some_iff.1 hj).1; omega
        obtain ⟨f2, fi, g1, _, _, g4, _⟩ := fieldsOk_get hf j fs[j] (by simp [hj'])
        rw [hj] at g1
        injection g1 with g1
        subst g1
        simp [sizeOf, typeInfo, g4]
      obtain ⟨us', q1, q2⟩ := fillC_rel (ρ := ρ) (lm := noL) (place' := fun j => (fs'.map fun f => (f.offset, ((P.info? f.type).map (·.size)).getD 0))[j]?) (us := z.cells) (fun j p hp => by
        obtain ⟨q, hq, hp⟩ := Option.bind_eq_some_iff.1 hp
        obtain ⟨fi', hfi, rfl⟩ := Option.map_eq_some_iff.1 hp
        obtain ⟨f2, fi, g1, g2, g3, g4, _⟩ := fieldsOk_get hf j q hq
        obtain ⟨inf', d', z', ti'⟩ := ok.tis hfi
        have g1' : fs'[j]? = some f2 := by simpa using g1
        have : fi = inf' := by have := ti'.info; rw [← g3, g4] at this; injection this
        subst this
        simp [g1', g2, g4, ti'.size]) p1 p2 (ti.rel ρ noL) hcs
      refine ⟨.agg us', ?_, ?_⟩
      · simp only [execOp, hop, Instr.build, Sem.run_bind, ti.run_zeroValue, Result.andThen_ok, ti.run_underlying]
        rw [run_mapM_array _ _ w fs' hsz]
        simp only [Result.andThen_ok, q1, Sem.run_pure]
      · simp only [VRel]
        exact ⟨us'.toList, rfl, q2.any lm⟩
    · rename_i n et hk
      obtain ⟨rfl, ha⟩ := ti.arr hk
      rw [Option.bind_eq_some_iff] at h
      obtain ⟨ie, hie, h⟩ := h
      obtain ⟨inf', d', z', ti'⟩ := ok.tis hie
      rw [Option.bind_eq_some_iff] at h
      obtain ⟨cs, hcs, h⟩ := h
      refine ⟨_, _, _, h, .pure fun ρ lm A w _ _ ho => ?_⟩
      obtain ⟨p1, p2⟩ := parts_rel (ρ := ρ) (lm := lm) (A := A) (fun p hp => ho _ (hops p hp)) hc
      obtain ⟨us', q1, q2⟩ := fillC_rel (ρ := ρ) (lm := noL) (place' := fun j => some (j * ie.size, ie.size)) (us := z.cells) (fun j p hp => hp) p1 p2 (ti.rel ρ noL) hcs
      refine ⟨.agg us', ?_, ?_⟩
      · simp only [execOp, hop, Instr.build, Sem.run_bind, ti.run_zeroValue, Result.andThen_ok, ti.run_underlying, ti'.run_sizeOf, q1, Sem.run_pure]
      · simp only [VRel]
        exact ⟨us'.toList, rfl, q2.any lm⟩
    · cases h
  · cases h

theorem snd_buildSlice (ok : TabOK P T) {f : FuncId} {t : TypeId} {len : Nat} {parts : Array (Nat × Operand)} (hop : o.op = .buildSlice t len parts) (h : ((T.ti t).bind fun i =>
      match partsOk T e parts with
      | true => match i.kind with
        | .slice et => (T.ti et).bind fun ie =>
            (fillC (fun j => some (j * ie.size, ie.size)) ((List.replicate len ie.zeros).flatten) (parts.toList.map fun p => (p.1, ev T e p.2))).bind fun cs =>
              match decide (len * ie.size ≤ 16777216) && decide (len ≤ 16777216) with
              | true => match o.dst with
                | some d => match T.loc f d with
                  | true => match l[d]? with
                    | some .none => k (.lslice d len ie.size) (l.set d (.cells cs)) σ
                    | _ => none
                  | false => k (.slice (some σ.length) 0 len ie.size) l (σ ++ [.row cs .rw])
                | none => none
              | false => none
        | _ => none
      | false => none) = some r) : Snd P T o e l σ k r := by
  rw [Option.bind_eq_some_iff] at h
  obtain ⟨i, hi, h⟩ := h
  obtain ⟨inf, d, z, ti⟩ := ok.tis hi
  split at h
  · rename_i hc
    have hops : ∀ p ∈ parts.toList, p.2 ∈ o.op.operands.toList := fun p hp => by
      simp only [hop, Op.operands]
      exact List.mem_map.2 ⟨p, hp, rfl⟩
    split at h
    · rename_i et hk
      obtain ⟨rfl, _, _⟩ := ti.slice hk
      rw [Option.bind_eq_some_iff] at h
      obtain ⟨ie, hie, h⟩ := h
      obtain ⟨inf', d', z', ti'⟩ := ok.tis hie
      rw [Option.bind_eq_some_iff] at h
      obtain ⟨cs, hcs, h⟩ := h
      split at h
      · rename_i hlen
        simp only [Bool.and_eq_true, decide_eq_true_eq] at hlen
        obtain ⟨hlen, hlen2⟩ := hlen
        have hcl := fillC_len hcs
        have hzl : ie.zeros.length = ie.size := by simp [TI.zeros, TI.size]
        have run : ∀ {ρ : Mp} {lm : Lp} {A : Act} {w : World}, (∀ y ∈ o.op.operands.toList, VRel ρ lm (ev T e y) (A.eval y)) →
            ∃ us', (execOp A.eval o).run P w = .ok (.value (.slice (some ⟨w.heap.size, 0, none⟩) len len)) (w.alloc (.cells us' et)) ∧ VRels ρ noL cs us'.toList := by
          intro ρ lm A w ho
          obtain ⟨p1, p2⟩ := parts_rel (ρ := ρ) (lm := lm) (A := A) (fun p hp => ho _ (hops p hp)) hc
          by_cases e0 : len * ie.size = 0
          · have r2 : VRels ρ noL ((List.replicate len ie.zeros).flatten) ((Array.range (len * ie.size)).map (fun j => (#[] : Array Value)[j % (#[] : Array Value).size]!)).toList := by
              have : (List.replicate len ie.zeros).flatten = [] := by
                apply List.eq_nil_of_length_eq_zero
                rw [flat_len, hzl, e0]
              rw [this, e0]
              simp [VRels]
            obtain ⟨us', q1, q2⟩ := fillC_rel (ρ := ρ) (lm := noL) (place' := fun j => some (j * ie.size, ie.size)) (fun j p hp => hp) p1 p2 r2 hcs
            refine ⟨us', ?_, q2⟩
            simp only [execOp, hop, Instr.buildSlice, Sem.run_bind, ti.run_underlying, Result.andThen_ok, ti'.run_sizeOf]
            rw [if_neg (by omega), if_pos e0]
            simp only [Sem.run_bind, Sem.run_pure, Result.andThen_ok]
            rw [q1]
            simp only [Sem.run_bind, newRow, run_newObj, Result.andThen_ok, Sem.run_pure]
            rfl
          · have r2 := zeros_rel (ti'.rel ρ noL) len (len * ie.size) (by rw [hzl])
            obtain ⟨us', q1, q2⟩ := fillC_rel (ρ := ρ) (lm := noL) (place' := fun j => some (j * ie.size, ie.size)) (fun j p hp => hp) p1 p2 r2 hcs
            refine ⟨us', ?_, q2⟩
            simp only [execOp, hop, Instr.buildSlice, Sem.run_bind, ti.run_underlying, Result.andThen_ok, ti'.run_sizeOf]
            rw [if_neg (by omega), if_neg e0]
            simp only [Sem.run_bind, Sem.run_pure, Result.andThen_ok, ti'.run_zeroValue]
            rw [q1]
            simp only [Sem.run_bind, newRow, run_newObj, Result.andThen_ok, Sem.run_pure]
            rfl
        have hca : cellAll cs = true := fillC_cells (fun p hp => by
          obtain ⟨q, hq, rfl⟩ := List.mem_map.1 hp
          simpa using List.all_eq_true.1 hc q hq) (cellAll_flat (cellAll_zeros ie) len) hcs
        split at h
        · rename_i dd hd
          split at h
          · split at h
            · rename_i hl
              refine ⟨_, _, _, h, .of_run fun ρ lm a w hH hL ho => ?_⟩
              obtain ⟨us', r1, r2⟩ := run (w := w) ho
              obtain ⟨h1, h2, h3, h4⟩ := new_own hH hL dd hl cs us' et r2 (oneCells r2 hca)
              refine ⟨_, _, _, _, _, r1, .inl rfl, h1, h2, ?_, h3, by rw [hd]; exact h4⟩
              simp only [VRel]
              exact ⟨w.heap.size, upd_same _ _ _, rfl⟩
            · cases h
          · refine ⟨_, _, _, h, .of_run fun ρ lm a w hH hL ho => ?_⟩
            obtain ⟨us', r1, r2⟩ := run (w := w) ho
            have hlr := r2.length
            have hls : us'.size = cs.length := by rw [← hlr]; simp
            obtain ⟨h1, h2, h3⟩ := new_row hH hL cs us' et (by rw [List.take_of_length_le (by rw [hlr]; exact Nat.le_refl _)]; exact r2) (by omega) (oneCells r2 hca)
            refine ⟨_, _, _, _, _, r1, .inl rfl, h1, h2, ?_, h3, LExt.refl ..⟩
            simp only [VRel]
            refine ⟨_, _, len, upd_same _ _ _, rfl, Nat.le_refl _, by omega, .inr ⟨rfl, ?_⟩⟩
            rw [flat_len, hzl] at hcl
            show 0 + 0 + len * ie.size ≤ us'.size
            omega
        · cases h
      · cases h
    · cases h
  · cases h

end
end Go.Abs
