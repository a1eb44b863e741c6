/-
Each operation: builtins, conversions, ranges over texts.
-/
import Derived.Test.YtcfohnfnajfahaaDoorAbs12
import Derived.Laws.Cover4
import Derived.Laws.BytesArg
import Derived.Lib.ConvBytes
namespace Go.Abs
open Go

section
variable {P : Program} {T : Tab} {R : Type} {o : Oper} {e : Env} {l : Locs} {σ : Heap} {k : AVal → Locs → Heap → Option R} {r : R}

/-- What a builtin takes up, on both sides. -/
theorem src_rel (_ : TabOK P T) {xt et : TypeId} {xi ie : TI} (_ : T.ti xt = some xi) (_ : T.ti et = some ie) {ρ : Mp} {lm : Lp} {w : World} (hH : HRel ρ σ w) (hL : LRel ρ lm l σ w) {x : AVal} {v : Value} (hv : VRel ρ lm x v)
    {m n : Nat} {vs : List AVal} (hn : srcLen x = some n) (hm : m ≤ n) (h : srcC xi ie x m l σ = some vs) :
    (Builtin.lenOf v).run P w = .ok n w ∧ ∃ us : List Value, VRels ρ noL vs us ∧ us.length = m * ie.size ∧ (∀ u ∈ us, u.oneCell' = true) ∧
      (∀ w' : World, w'.heap = w.heap → (Builtin.firstCells ie.size m v).run P w' = .ok us.toArray w') ∧ ((∃ e', xi.kind = .slice e') ∨ (xi.shape = [.str] ∧ xi.agg = false)) := by
  unfold srcC at h
  split at h
  · rename_i b o' n' z
    simp only [srcLen, Option.some.injEq] at hn
    subst hn
    split at h
    · rename_i e' hk hz
      simp only [decide_eq_true_eq] at hz
      have hlen : (Builtin.lenOf v).run P w = .ok n' w := by
        cases b with
        | none => simp only [VRel] at hv; obtain ⟨_, rfl, rfl⟩ := hv; rfl
        | some b => simp only [VRel] at hv; obtain ⟨_, _, _, _, rfl, _⟩ := hv; rfl
      refine ⟨hlen, ?_⟩
      -- a shorter slice
      have hv' : ∃ v', VRel ρ lm (.slice b o' m ie.size) v' ∧ ∀ (w' : World), (Builtin.firstCells ie.size m v').run P w' = (Builtin.firstCells ie.size m v).run P w' := by
        cases b with
        | none =>
          simp only [VRel] at hv
          obtain ⟨rfl, rfl, rfl⟩ := hv
          obtain rfl : m = 0 := by omega
          exact ⟨.slice none 0 0, by simp [VRel], fun _ => rfl⟩
        | some b =>
          simp only [VRel] at hv
          obtain ⟨pl, a, cap, h1, rfl, h2, h3, h4⟩ := hv
          obtain rfl : z = ie.size := hz.resolve_right (by simp)
          exact ⟨.slice (some a) m cap, by simp only [VRel]; exact ⟨pl, a, cap, h1, rfl, by omega, h3, h4⟩, fun _ => rfl⟩
      obtain ⟨v', q1, q2⟩ := hv'
      obtain ⟨us, r1, r2, r3, r4⟩ := read_rel (P := P) hH h q1
      have hul : us.length = m * ie.size := by
        rw [r2]
        split
        · rename_i hb
          subst hb
          simp only [VRel] at hv
          have : m = 0 := by omega
          simp [this]
        · rfl
      refine ⟨us, r1, hul, r3, fun w' hw' => ?_, .inl ⟨e', hk⟩⟩
      rw [← q2]
      have := r4 m (by omega) w' hw'
      rwa [List.take_of_length_le (by omega)] at this
    · cases h
  · rename_i s n' z
    simp only [srcLen, Option.some.injEq] at hn
    subst hn
    split at h
    · rename_i e' cs hk hs hc
      simp only [Bool.and_eq_true, decide_eq_true_eq] at hc
      split at h
      · rename_i hcl
        injection h with h
        subst h
        simp only [VRel] at hv
        obtain ⟨b, hb, rfl⟩ := hv
        obtain ⟨_, h2⟩ := hL.loc s b hb
        obtain ⟨c, ty, fr, g1, g2, g3, g4⟩ := h2.of_cells hs
        have hgl := g3.length
        have hle : m * ie.size ≤ cs.length := by rw [hcl]; exact Nat.mul_le_mul_right _ hm
        have hul : (c.toList.take (m * ie.size)).length = m * ie.size := by rw [List.length_take]; omega
        refine ⟨rfl, c.toList.take (m * ie.size), VRels.of_get (by rw [List.length_take, List.length_take]; omega) fun j x hx => ?_, hul, fun u hu => g4 u (List.mem_of_mem_take hu), fun w' hw' => ?_, .inl ⟨e', hk⟩⟩
        · rw [List.getElem?_take] at hx ⊢
          split at hx
          · rename_i hj; rw [if_pos hj]; exact g3.get j x hx
          · cases hx
        · simp only [Builtin.firstCells]
          have := run_loadCells_list (P := P) w' ⟨b, 0, none⟩ (c.toList.take (m * ie.size)) (fun j v hj => by
            rw [add_none]
            rw [List.getElem?_take] at hj
            split at hj
            · simp only [World.cell?, hw', g1]
              simpa using hj
            · cases hj)
          rwa [hul] at this
      · cases h
    · cases h
  · rename_i s
    simp only [srcLen, Option.some.injEq] at hn
    subst hn
    split at h
    · rename_i ha hs hea hes
      injection h with h
      subst h
      simp only [VRel] at hv
      subst hv
      have hsz : ie.size = 1 := by simp [TI.size, hes]
      have hdl : s.data.toList.length = s.size := by rw [Array.length_toList]; rfl
      refine ⟨rfl, ((s.data.toList.map fun b => Value.int .u8 b.toNat).take m), VRels.of_get (by simp) fun j x hx => ?_, by rw [List.length_take, List.length_map, hdl, hsz]; omega, fun u hu => ?_, fun w' _ => ?_, .inr ⟨hs, ha⟩⟩
      · rw [List.getElem?_take] at hx ⊢
        split at hx
        · rename_i hj
          rw [if_pos hj]
          rw [List.getElem?_map, Option.map_eq_some_iff] at hx
          obtain ⟨y, hy, rfl⟩ := hx
          exact ⟨.int .u8 y.toNat, by rw [List.getElem?_map, hy]; rfl, by simp [VRel]⟩
        · cases hx
      · obtain ⟨y, _, rfl⟩ := List.mem_map.1 (List.mem_of_mem_take hu)
        rfl
      · simp only [Builtin.firstCells, Sem.run_pure]
        congr 1
        apply Array.ext'
        simp only [Array.toList_map]
        congr 1
        simp [ByteArray.data_extract]
    · cases h
  · cases h

theorem snd_builtin (ok : TabOK P T) {c : Call} {b : Builtin} (hop : o.op = .call c) (hb : c.callee = .builtin b) (h : builtinC T b c.argTypes.toList (c.args.toList.map (ev T e)) l σ k = some r) : Snd P T o e l σ k r := by
  have exec : ∀ (A : Act) (w : World) (v : Value) (w' : World), (builtin b c.argTypes o.type (c.args.map fun | .const _ => true | _ => false) (c.args.map A.eval)).run P w = .ok (.value v) w' → (execOp A.eval o).run P w = .ok (.value v) w' := fun A w v w' hr => by
    simp only [execOp, hop, resolve, hb, Sem.run_bind, Sem.run_pure, Result.andThen_ok, invoke]
    exact hr
  have hops : ∀ {ρ : Mp} {lm : Lp} {A : Act}, (∀ x ∈ o.op.operands.toList, VRel ρ lm (ev T e x) (A.eval x)) → ∀ x ∈ c.args.toList, VRel ρ lm (ev T e x) (A.eval x) := fun ho x hx =>
    ho x (by simp [hop, Op.operands, Call.operands, hb]; exact Array.mem_toList_iff.1 hx)
  have arr : ∀ {α : Type} {xs : Array α} {l : List α}, xs.toList = l → xs = l.toArray := fun h => by rw [← h]
  unfold builtinC at h
  split at h
  · -- len
    rename_i t x ht hx
    obtain ⟨y, hy, rfl⟩ := List.map_eq_singleton_iff.1 hx
    have ht := arr ht
    have hy' := arr hy
    rw [Option.bind_eq_some_iff] at h
    obtain ⟨i, hi, h⟩ := h
    obtain ⟨inf, d, z, ti⟩ := ok.tis hi
    split at h
    · rename_i b0 o0 n0 z0 hv
      split at h
      · rename_i et hk
        obtain ⟨rfl, _, _⟩ := ti.slice hk
        refine ⟨_, _, _, h, .pure fun ρ lm A w _ _ ho => ⟨.int .i64 n0, exec A w _ w ?_, by simp [VRel]⟩⟩
        have h1 := hops ho y (by rw [hy]; simp)
        rw [hv] at h1
        rw [ht, hy']
        cases b0 with
        | none =>
          simp only [VRel] at h1
          obtain ⟨_, rfl, h1⟩ := h1
          simp [builtin, Builtin.len_, h1, ti.run_underlying, goInt]
        | some b0 =>
          simp only [VRel] at h1
          obtain ⟨_, _, _, _, h1, _⟩ := h1
          simp [builtin, Builtin.len_, h1, ti.run_underlying, goInt]
      · cases h
    · rename_i s0 n0 z0 hv
      split at h
      · rename_i et hk
        obtain ⟨rfl, _, _⟩ := ti.slice hk
        refine ⟨_, _, _, h, .pure fun ρ lm A w _ _ ho => ⟨.int .i64 n0, exec A w _ w ?_, by simp [VRel]⟩⟩
        have h1 := hops ho y (by rw [hy]; simp)
        rw [hv] at h1
        rw [ht, hy']
        simp only [VRel] at h1
        obtain ⟨_, _, h1⟩ := h1
        simp [builtin, Builtin.len_, h1, ti.run_underlying, goInt]
      · cases h
    · rename_i s hv
      split at h
      · rename_i ha hs
        obtain rfl := ti.str hs ha
        refine ⟨_, _, _, h, .pure fun ρ lm A w _ _ ho => ⟨.int .i64 s.size, exec A w _ w ?_, by simp [VRel]⟩⟩
        have h1 := hops ho y (by rw [hy]; simp)
        rw [hv] at h1
        rw [ht, hy']
        simp only [VRel] at h1
        simp [builtin, Builtin.len_, h1, ti.run_underlying, goInt]
      · cases h
    · cases h
  · -- append
    rename_i t xt b0 o0 n0 z0 x ht hx
    obtain ⟨y1, ys, hy, e1, e2⟩ := List.map_eq_cons_iff.1 hx
    obtain ⟨y2, rfl, rfl⟩ := List.map_eq_singleton_iff.1 e2
    have ht := arr ht
    have hy' := arr hy
    rw [Option.bind_eq_some_iff] at h
    obtain ⟨i, hi, h⟩ := h
    rw [Option.bind_eq_some_iff] at h
    obtain ⟨xi, hxi, h⟩ := h
    split at h
    · rename_i et hk
      rw [Option.bind_eq_some_iff] at h
      obtain ⟨ie, hie, h⟩ := h
      split at h
      · rename_i hz
        simp only [decide_eq_true_eq] at hz
        rw [Option.bind_eq_some_iff] at h
        obtain ⟨m, hm, h⟩ := h
        rw [Option.bind_eq_some_iff] at h
        obtain ⟨vs, hvs, h⟩ := h
        rw [Option.bind_eq_some_iff] at h
        obtain ⟨⟨⟨b', o2, n2⟩, σ'⟩, hq, h⟩ := h
        refine ⟨_, _, _, h, .of_run fun ρ lm A w hH hL ho => ?_⟩
        have h1 := hops ho y1 (by rw [hy]; simp)
        have h2 := hops ho y2 (by rw [hy]; simp)
        rw [e1] at h1
        obtain ⟨l1, us, r1, r2, r3, r4, r5⟩ := src_rel (P := P) ok hxi hie hH hL h2 hm (Nat.le_refl _) hvs
        obtain ⟨cv, w', ρ', q1, q2, q3, q4, q5⟩ := append_run (P := P) ok hi hk hie hxi r5 hH hL h1 hz r1 r2 l1 r4 r3 hq o.type
        refine ⟨_, cv, w', ρ', lm, exec A w cv w' ?_, .inl rfl, q2, q3, q4, q5, LExt.refl ..⟩
        rw [ht, hy']
        simp only [builtin, List.map_toArray, List.map_cons, List.map_nil, Sem.run_bind, q1, Result.andThen_ok, Sem.run_pure]
      · cases h
    · cases h
  · -- copy
    rename_i t xt b0 o0 n0 z0 x ht hx
    obtain ⟨y1, ys, hy, e1, e2⟩ := List.map_eq_cons_iff.1 hx
    obtain ⟨y2, rfl, rfl⟩ := List.map_eq_singleton_iff.1 e2
    have ht := arr ht
    have hy' := arr hy
    rw [Option.bind_eq_some_iff] at h
    obtain ⟨i, hi, h⟩ := h
    rw [Option.bind_eq_some_iff] at h
    obtain ⟨xi, hxi, h⟩ := h
    obtain ⟨inf, d, z, ti⟩ := ok.tis hi
    split at h
    · rename_i et hk
      obtain ⟨rfl, _, _⟩ := ti.slice hk
      rw [Option.bind_eq_some_iff] at h
      obtain ⟨ie, hie, h⟩ := h
      obtain ⟨inf', d', z', ti'⟩ := ok.tis hie
      split at h
      · rename_i hz
        simp only [decide_eq_true_eq] at hz
        rw [Option.bind_eq_some_iff] at h
        obtain ⟨m, hm, h⟩ := h
        rw [Option.bind_eq_some_iff] at h
        obtain ⟨vs, hvs, h⟩ := h
        split at h
        · -- nil
          refine ⟨_, _, _, h, .of_run fun ρ lm A w hH hL ho => ?_⟩
          have h1 := hops ho y1 (by rw [hy]; simp)
          have h2 := hops ho y2 (by rw [hy]; simp)
          rw [e1] at h1
          simp only [VRel] at h1
          obtain ⟨_, rfl, h1⟩ := h1
          obtain ⟨l1, us, r1, r2, r3, r4, r5⟩ := src_rel (P := P) ok hxi hie hH hL h2 hm (Nat.min_le_left _ _) hvs
          refine ⟨_, .int .i64 ((min m 0 : Nat) : Int), w, ρ, lm, exec A w _ w ?_, .inl rfl, hH, hL, by simp [VRel], Step.refl .., LExt.refl ..⟩
          rw [ht, hy']
          have r4' := r4 w rfl
          try simp only [Nat.min_zero] at r4'
          simp [builtin, Builtin.copy_, h1, ti.run_underlying, ti'.run_sizeOf, l1, r4', goInt]
        · rename_i b0
          rw [Option.bind_eq_some_iff] at h
          obtain ⟨σ', hs, h⟩ := h
          refine ⟨_, _, _, h, .of_run fun ρ lm A w hH hL ho => ?_⟩
          have h1 := hops ho y1 (by rw [hy]; simp)
          have h2 := hops ho y2 (by rw [hy]; simp)
          rw [e1] at h1
          simp only [VRel] at h1
          obtain ⟨pl, a, cap, hp, h1, h4, h5, h6⟩ := h1
          obtain ⟨l1, us, r1, r2, r3, r4, r5⟩ := src_rel (P := P) ok hxi hie hH hL h2 hm (Nat.min_le_left _ _) hvs
          have r4' := r4 w rfl
          have e0 : Nat.min m n0 = min m n0 := rfl
          rcases h6 with h6 | ⟨h6, _⟩
          · -- nothing is copied
            have hn0 : n0 = 0 := by omega
            subst hn0
            have hu0 : us = [] := List.eq_nil_of_length_eq_zero (by rw [r2]; simp)
            subst hu0
            have hv0 : vs = [] := by cases vs with | nil => rfl | cons a b => simp only [VRels] at r1; obtain ⟨_, _, h, _⟩ := r1; cases h
            subst hv0
            obtain ⟨cs, hb, hl, rfl⟩ := store_some hs
            have hσ : σ.set b0 (.row (overwrite cs o0 []) .rw) = σ := by
              apply List.ext_getElem?
              intro j
              by_cases e : j = b0
              · subst e
                have hlt := (List.getElem?_eq_some_iff.1 hb).1
                rw [List.getElem?_set_self hlt, hb]
                rfl
              · rw [List.getElem?_set_ne (Ne.symm e)]
            rw [hσ]
            refine ⟨_, .int .i64 ((min m 0 : Nat) : Int), w, ρ, lm, exec A w _ w ?_, .inl rfl, hH, hL, by simp [VRel], Step.refl .., LExt.refl ..⟩
            rw [ht, hy']
            try simp only [Nat.min_zero] at r4'
            simp [builtin, Builtin.copy_, h1, ti.run_underlying, ti'.run_sizeOf, l1, r4', goInt, storeCells]
          · subst h6
            obtain ⟨q1, q2, q3, q4⟩ := heap_store (P := P) hH hL hp hs r1 r3
            refine ⟨_, .int .i64 ((min m n0 : Nat) : Int), _, ρ, lm, exec A w _ _ ?_, .inl rfl, q2, q3, by simp [VRel], q4, LExt.refl ..⟩
            rw [ht, hy']
            simp only [builtin, List.map_toArray, List.map_cons, List.map_nil, Builtin.copy_, h1, Sem.run_bind]
            simp [ti.run_underlying, ti'.run_sizeOf, l1, e0, r4', q1, goInt]
      · cases h
    · cases h
  · -- max
    rename_i kd a kd' a' hx
    obtain ⟨y1, ys, hy, e1, e2⟩ := List.map_eq_cons_iff.1 hx
    obtain ⟨y2, rfl, e3⟩ := List.map_eq_singleton_iff.1 e2
    have hy' := arr hy
    split at h
    · rename_i ek
      subst ek
      refine ⟨_, _, _, h, .pure fun ρ lm A w _ _ ho => ⟨.int kd (if a' > a then a' else a), exec A w _ w ?_, by simp [VRel]⟩⟩
      have h1 := hops ho y1 (by rw [hy]; simp)
      have h2 := hops ho y2 (by rw [hy]; simp)
      rw [e1] at h1
      rw [e3] at h2
      simp only [VRel] at h1 h2
      rw [hy']
      simp [builtin, Builtin.max_, h1, h2, Builtin.max2]
    · cases h
  · -- min
    rename_i kd a kd' a' hx
    obtain ⟨y1, ys, hy, e1, e2⟩ := List.map_eq_cons_iff.1 hx
    obtain ⟨y2, rfl, e3⟩ := List.map_eq_singleton_iff.1 e2
    have hy' := arr hy
    split at h
    · rename_i ek
      subst ek
      refine ⟨_, _, _, h, .pure fun ρ lm A w _ _ ho => ⟨.int kd (if a' < a then a' else a), exec A w _ w ?_, by simp [VRel]⟩⟩
      have h1 := hops ho y1 (by rw [hy]; simp)
      have h2 := hops ho y2 (by rw [hy]; simp)
      rw [e1] at h1
      rw [e3] at h2
      simp only [VRel] at h1 h2
      rw [hy']
      simp [builtin, Builtin.min_, h1, h2, Builtin.min2]
    · cases h
  · cases h

theorem snd_makeSlice (ok : TabOK P T) {t : TypeId} {n c : Operand} (hop : o.op = .makeSlice t n c) (h : ((T.ti t).bind fun i =>
      match i.kind, int? (some (ev T e n)) .i64, int? (some (ev T e c)) .i64 with
      | .slice et, some n, some c => (T.ti et).bind fun ie =>
          match decide (0 ≤ n) && decide (n ≤ c) && decide (ie.bytes * c ≤ 70368744177664) && decide (c ≤ 70368744177664) with
          | true => k (.slice (some σ.length) 0 n.toNat ie.size) l (σ ++ [.row ((List.replicate c.toNat ie.zeros).flatten) .rw])
          | false => none
      | _, _, _ => none) = some r) : Snd P T o e l σ k r := by
  rw [Option.bind_eq_some_iff] at h
  obtain ⟨i, hi, h⟩ := h
  obtain ⟨inf, d, z, ti⟩ := ok.tis hi
  split at h
  · rename_i et n' c' hk hn hc
    obtain ⟨rfl, _, _⟩ := ti.slice hk
    rw [Option.bind_eq_some_iff] at h
    obtain ⟨ie, hie, h⟩ := h
    obtain ⟨inf', d', z', ti'⟩ := ok.tis hie
    split at h
    · rename_i hb
      simp only [Bool.and_eq_true, decide_eq_true_eq] at hb
      obtain ⟨⟨⟨b1, b2⟩, b3⟩, b4⟩ := hb
      have hn := int64_some hn
      have hc := int64_some hc
      refine ⟨_, _, _, h, .of_run fun ρ lm A w hH hL ho => ?_⟩
      have h1 := ho n (by simp [hop, Op.operands])
      have h2 := ho c (by simp [hop, Op.operands])
      rw [hn] at h1
      rw [hc] at h2
      simp only [VRel] at h1 h2
      have run := run_make (P := P) w t et inf' z' ti.und ti'.info ti'.zero .i64 .i64 n' c' b1 b2 (by rw [ti'.bytes]; omega) (by omega)
      have hzl : ie.zeros.length = ie.size := by simp [TI.zeros, TI.size]
      have hzs : z'.cells.size = ie.size := by have := (ti'.rel ρ noL).length; simp at this; omega
      have hrel := zeros_rel (ti'.rel ρ noL) c'.toNat (c'.toNat * ie.size) (by rw [hzl])
      have hmc : madeCells z'.cells (c'.toNat * inf'.size) = (Array.range (c'.toNat * ie.size)).map (fun j => z'.cells[j % z'.cells.size]!) := by
        rw [ti'.size]; rfl
      have hfl := flat_len ie.zeros c'.toNat
      rw [hzl] at hfl
      obtain ⟨q1, q2, q3⟩ := new_row hH hL ((List.replicate c'.toNat ie.zeros).flatten) (madeCells z'.cells (c'.toNat * inf'.size)) et (by
        rw [hmc, List.take_of_length_le (by simp [hfl])]; exact hrel) (by rw [hmc]; simp [hfl]) (by
        rw [hmc]
        exact oneCells hrel (cellAll_flat (cellAll_zeros ie) _))
      refine ⟨_, .slice (some ⟨w.heap.size, 0, none⟩) n'.toNat c'.toNat, _, _, lm, ?_, .inl rfl, q1, q2, ?_, q3, LExt.refl ..⟩
      · simp only [execOp, hop, h1, h2, Sem.run_bind, run, Result.andThen_ok, Sem.run_pure]
      · simp only [VRel]
        refine ⟨_, _, c'.toNat, upd_same _ _ _, rfl, by omega, by omega, .inr ⟨rfl, ?_⟩⟩
        rw [hmc]
        simp
    · cases h
  · cases h

end
end Go.Abs
