/-
Each operation: new memory, parts, addresses.
-/
import Derived.Test.YtcfohnfnajfahaaDoorAbs8
namespace Go.Abs
open Go

theorem fieldsOk_get {P : Program} : ∀ {fs : List Field} {ps : List (Nat × TypeId)}, fieldsOk P fs ps = true → ∀ (j : Nat) (p : Nat × TypeId), ps[j]? = some p → ∃ f i, fs[j]? = some f ∧ f.offset = p.1 ∧ f.type = p.2 ∧ P.info? f.type = some i ∧ i.size ≠ 0
  | [], [], _, j, p, h => by simp at h
  | [], _ :: _, h, _, _, _ => by simp [fieldsOk] at h
  | _ :: _, [], h, _, _, _ => by simp [fieldsOk] at h
  | f :: fs, q :: ps, h, j, p, hj => by
    simp only [fieldsOk, Bool.and_eq_true, decide_eq_true_eq] at h
    obtain ⟨⟨⟨h1, h2⟩, h3⟩, h4⟩ := h
    cases j with
    | zero =>
      simp at hj
      subst hj
      split at h3
      · rename_i i hi
        exact ⟨f, i, rfl, h1, h2, hi, by simpa using h3⟩
      · cases h3
    | succ j => simpa using fieldsOk_get h4 j p (by simpa using hj)
theorem fieldsOk_len {P : Program} : ∀ {fs : List Field} {ps : List (Nat × TypeId)}, fieldsOk P fs ps = true → fs.length = ps.length
  | [], [], _ => rfl
  | [], _ :: _, h => by simp [fieldsOk] at h
  | _ :: _, [], h => by simp [fieldsOk] at h
  | f :: fs, q :: ps, h => by
    simp only [fieldsOk, Bool.and_eq_true] at h
    simp [fieldsOk_len h.2]

section
variable {P : Program} {T : Tab} {R : Type} {o : Oper} {e : Env} {l : Locs} {σ : Heap} {k : AVal → Locs → Heap → Option R} {r : R}

theorem snd_extract {t : Operand} {ix : Nat} (hop : o.op = .extract t ix) (h : (match ev T e t with
      | .tuple vs => (vs[ix]?).bind fun v => k v l σ
      | _ => none) = some r) : Snd P T o e l σ k r := by
  split at h
  · rename_i vs hx
    obtain ⟨v, hv, h⟩ := Option.bind_eq_some_iff.1 h
    refine ⟨_, _, _, h, .pure fun ρ lm A w _ _ ho => ?_⟩
    have h1 := ho t (by simp [hop, Op.operands])
    rw [hx] at h1
    obtain ⟨us, hu, hr⟩ := by simpa only [VRel] using h1
    obtain ⟨u, e1, hr1⟩ := hr.get ix v hv
    exact ⟨u, by simp [execOp, hop, hu, Instr.extract, e1], hr1⟩
  · cases h

theorem snd_makeFunc {fn : Fn} {first caps : Array Operand} (hop : o.op = .makeFunc fn first caps) (h : (match first.size with
      | 0 => k (.func fn (caps.toList.map (ev T e))) l σ
      | _ => none) = some r) : Snd P T o e l σ k r := by
  split at h
  · rename_i hs
    have hf := Array.eq_empty_of_size_eq_zero hs
    subst hf
    refine ⟨_, _, _, h, .pure fun ρ lm A w _ _ ho => ⟨.func fn #[] (caps.map A.eval), by simp [execOp, hop, Instr.makeFunc], ?_⟩⟩
    simp only [VRel]
    refine ⟨caps.toList.map A.eval, by simp [← Array.toList_map], VRels.of_get (by simp) fun j x hx => ?_⟩
    simp only [List.getElem?_map, Option.map_eq_some_iff] at hx ⊢
    obtain ⟨y, hy, rfl⟩ := hx
    exact ⟨_, ⟨y, hy, rfl⟩, ho y (by simp only [hop, Op.operands, Array.empty_append]; exact List.mem_of_getElem? hy)⟩
  · cases h

theorem snd_fieldAddr (ok : TabOK P T) {s : TypeId} {x : Operand} {fd : Nat} (hop : o.op = .fieldAddr s x fd) (h : ((T.ti s).bind fun i =>
      match i.kind with
      | .struct fs => (fs[fd]?).bind fun p => match ev T e x with
        | .ptr q => q.bind fun q => k (.ptr (some (q.1, q.2 + p.1))) l σ
        | .lptr t o => k (.lptr t (o + p.1)) l σ
        | _ => none
      | _ => none) = some r) : Snd P T o e l σ k r := by
  obtain ⟨i, hi, h⟩ := Option.bind_eq_some_iff.1 h
  obtain ⟨inf, d, z, ti⟩ := ok.tis hi
  split at h
  · rename_i fs hk
    obtain ⟨fs', rfl, ha, hf⟩ := ti.struct hk
    obtain ⟨p, hp, h⟩ := Option.bind_eq_some_iff.1 h
    obtain ⟨f, fi, f1, f2, f3, f4, f5⟩ := fieldsOk_get hf fd p hp
    have run : ∀ (w : World) (b o' : Nat), (Instr.fieldAt s (.pointer (some ⟨b, o', none⟩)) fd).run P w = .ok (.pointer (some ⟨b, o' + p.1, none⟩)) w := fun w b o' => by
      have f1' : fs'[fd]? = some f := by simpa using f1
      simp only [Instr.fieldAt, Sem.run_bind, ti.run_underlying, Result.andThen_ok, f1', Instr.sureAddr, Sem.run_pure, fieldPlace, sizeOf, typeInfo, run_program, f4]
      rw [if_neg f5]
      simp [add_none, f2]
    split at h
    · rename_i q hx
      obtain ⟨⟨b, o'⟩, hq, h⟩ := Option.bind_eq_some_iff.1 h
      refine ⟨_, _, _, h, .pure fun ρ lm A w _ _ ho => ?_⟩
      have h1 := ho x (by simp [hop, Op.operands])
      rw [hx, hq] at h1
      obtain ⟨pl, h2, hv⟩ := by simpa only [VRel] using h1
      refine ⟨.pointer (some ⟨pl.blk, pl.off + o' + p.1, none⟩), by simp [execOp, hop, hv, run], ?_⟩
      simp only [VRel]
      exact ⟨pl, h2, by rw [Nat.add_assoc]⟩
    · rename_i t o' hx
      refine ⟨_, _, _, h, .pure fun ρ lm A w _ _ ho => ?_⟩
      have h1 := ho x (by simp [hop, Op.operands])
      rw [hx] at h1
      obtain ⟨b, h2, hv⟩ := by simpa only [VRel] using h1
      refine ⟨.pointer (some ⟨b, o' + p.1, none⟩), by simp [execOp, hop, hv, run], ?_⟩
      simp only [VRel]
      exact ⟨b, h2, rfl⟩
    · cases h
  · cases h

theorem run_part_ti (ok : TabOK P T) {t : TypeId} {i : TI} (hi : T.ti t = some i) (w : World) (xs : List Value) (o' : Nat) (ys : List Value) (hy : ys.length = i.size) (hc : ∀ j v, ys[j]? = some v → xs[o' + j]? = some v) :
    (part t xs.toArray o').run P w = .ok (if i.agg then .agg ys.toArray else ys.headD Go.undef) w := by
  obtain ⟨inf, d, z, ti⟩ := ok.tis hi
  unfold part
  simp only [Sem.run_bind, ti.run_isAgg, Result.andThen_ok]
  cases ha : i.agg with
  | true =>
    simp only [if_true, Sem.run_bind, ti.run_sizeOf, Result.andThen_ok, Sem.run_pure]
    congr 2
    apply Array.ext'
    simp only [Array.toList_extract, List.extract_eq_take_drop]
    apply List.ext_getElem?
    intro j
    rw [List.getElem?_take, List.getElem?_drop]
    by_cases hj : j < i.size
    · rw [if_pos (by omega)]
      have := hc j ys[j] (by simp [hy, hj])
      rw [this]
      simp [hy, hj]
    · rw [if_neg (by omega), List.getElem?_eq_none (by omega)]
  | false =>
    have h1 := ti.len1 ha
    rw [h1] at hy
    match ys, hy with
    | [y], _ =>
      have := hc 0 y rfl
      simp only [Nat.add_zero] at this
      simp [this]

theorem snd_field (ok : TabOK P T) {s : TypeId} {x : Operand} {fd : Nat} (hop : o.op = .field s x fd) (h : ((T.ti s).bind fun i =>
      match i.kind with
      | .struct fs => (fs[fd]?).bind fun p => (T.ti p.2).bind fun fi => match ev T e x with
        | .agg cs => fetches fi.shape (fun j => cs[p.1 + j]?) 0 fun vs => k (fi.val vs) l σ
        | _ => none
      | _ => none) = some r) : Snd P T o e l σ k r := by
  obtain ⟨i, hi, h⟩ := Option.bind_eq_some_iff.1 h
  obtain ⟨inf, d, z, ti⟩ := ok.tis hi
  split at h
  · rename_i fs hk
    obtain ⟨fs', rfl, ha, hf⟩ := ti.struct hk
    obtain ⟨p, hp, h⟩ := Option.bind_eq_some_iff.1 h
    obtain ⟨f, fi, f1, f2, f3, f4, f5⟩ := fieldsOk_get hf fd p hp
    obtain ⟨fi', hfi, h⟩ := Option.bind_eq_some_iff.1 h
    obtain ⟨inf', d', z', ti'⟩ := ok.tis hfi
    split at h
    · rename_i cs hx
      obtain ⟨zs, hk', hl, hz⟩ := fetches_some h
      refine ⟨_, _, _, hk', .pure fun ρ lm A w _ _ ho => ?_⟩
      have h1 := ho x (by simp [hop, Op.operands])
      rw [hx] at h1
      obtain ⟨us, hv, hr⟩ := by simpa only [VRel] using h1
      obtain ⟨vs, l2, hr2, hc⟩ := zs_rel (cell := fun m => us[p.1 + m]?) (fun m y hy => hr.get _ y hy) hz
      refine ⟨if fi'.agg then .agg vs.toArray else vs.headD Go.undef, ?_, ti'.val_rel hl hr2⟩
      have f1' : fs'[fd]? = some f := by simpa using f1
      have := run_part_ti ok hfi w us p.1 vs (l2.trans hl) hc
      simp [execOp, hop, hv, Instr.field, ti.run_underlying, f1', asAgg, f2, f3, this]
    · cases h
  · cases h

theorem int64_some {x : AVal} {j : Int} (h : int? (some x) .i64 = some j) : x = .int .i64 j := by
  unfold int? at h
  split at h
  · rename_i k n e
    injection e with e
    split at h
    · rename_i e2
      injection h with h
      rw [e, e2, h]
    · cases h
  · cases h

theorem snd_indexAddr (ok : TabOK P T) {t : TypeId} {x ix : Operand} (hop : o.op = .indexAddr t x ix) (h : ((T.ti t).bind fun i =>
      match i.kind, ev T e x, int? (some (ev T e ix)) .i64 with
      | .slice et, .slice b o n z, some j => (T.ti et).bind fun ie => match decide (z = ie.size) with
        | true => match decide (0 ≤ j) && decide (j < n) with
          | true => b.bind fun b => k (.ptr (some (b, o + j.toNat * z))) l σ
          | false => none
        | false => none
      | .array n et, .ptr p, some j => (T.ti et).bind fun ie => match decide (0 ≤ j) && decide (j < n) with
        | true => p.bind fun q => k (.ptr (some (q.1, q.2 + j.toNat * ie.size))) l σ
        | false => none
      | .array n et, .lptr s o, some j => (T.ti et).bind fun ie => match decide (0 ≤ j) && decide (j < n) with
        | true => k (.lptr s (o + j.toNat * ie.size)) l σ
        | false => none
      | _, _, _ => none) = some r) : Snd P T o e l σ k r := by
  obtain ⟨i, hi, h⟩ := Option.bind_eq_some_iff.1 h
  obtain ⟨inf, d, z, ti⟩ := ok.tis hi
  split at h
  · rename_i et b o' n z' j hk hx hj
    obtain ⟨ie, hie, h⟩ := Option.bind_eq_some_iff.1 h
    obtain ⟨inf', d', z'', ti'⟩ := ok.tis hie
    split at h
    · rename_i c3
      simp only [decide_eq_true_eq] at c3
      split at h
      case h_2 => cases h
      rename_i hc
      simp only [Bool.and_eq_true, decide_eq_true_eq] at hc
      obtain ⟨b, rfl, h⟩ := Option.bind_eq_some_iff.1 h
      obtain ⟨rfl, _, _⟩ := ti.slice hk
      have hj := int64_some hj
      refine ⟨_, _, _, h, .pure fun ρ lm A w _ _ ho => ?_⟩
      have h1 := ho x (by simp [hop, Op.operands])
      have h2 := ho ix (by simp [hop, Op.operands])
      rw [hx] at h1
      rw [hj] at h2
      obtain ⟨pl, a, cap, h3, hv, h4, h5, h6⟩ := by simpa only [VRel] using h1
      simp only [VRel] at h2
      obtain ⟨c1, c2⟩ := hc
      rcases h6 with h6 | ⟨rfl, _⟩
      · omega
      refine ⟨.pointer (some ⟨pl.blk, pl.off + o' + j.toNat * ie.size, none⟩), ?_, ?_⟩
      · simp [execOp, hop, hv, h2, Instr.indexAt, asIntOf, ti.run_underlying, ti'.run_sizeOf, c1, c2, add_none]
      · simp only [VRel]
        exact ⟨pl, h3, by rw [c3, Nat.add_assoc]⟩
    · cases h
  · rename_i n et p j hk hx hj
    obtain ⟨ie, hie, h⟩ := Option.bind_eq_some_iff.1 h
    obtain ⟨inf', d', z'', ti'⟩ := ok.tis hie
    split at h
    · rename_i hc
      simp only [Bool.and_eq_true, decide_eq_true_eq] at hc
      obtain ⟨⟨b, o'⟩, rfl, h⟩ := Option.bind_eq_some_iff.1 h
      obtain ⟨rfl, _⟩ := ti.arr hk
      have hj := int64_some hj
      refine ⟨_, _, _, h, .pure fun ρ lm A w _ _ ho => ?_⟩
      have h1 := ho x (by simp [hop, Op.operands])
      have h2 := ho ix (by simp [hop, Op.operands])
      rw [hx] at h1
      rw [hj] at h2
      obtain ⟨pl, h3, hv⟩ := by simpa only [VRel] using h1
      simp only [VRel] at h2
      refine ⟨.pointer (some ⟨pl.blk, pl.off + o' + j.toNat * ie.size, none⟩), ?_, ?_⟩
      · simp [execOp, hop, hv, h2, Instr.indexAt, asIntOf, Instr.sureAddr, ti.run_underlying, ti'.run_sizeOf, hc.1, hc.2, add_none]
      · simp only [VRel]
        exact ⟨pl, h3, by rw [Nat.add_assoc]⟩
    · cases h
  · rename_i n et s o' j hk hx hj
    obtain ⟨ie, hie, h⟩ := Option.bind_eq_some_iff.1 h
    obtain ⟨inf', d', z'', ti'⟩ := ok.tis hie
    split at h
    · rename_i hc
      simp only [Bool.and_eq_true, decide_eq_true_eq] at hc
      obtain ⟨rfl, _⟩ := ti.arr hk
      have hj := int64_some hj
      refine ⟨_, _, _, h, .pure fun ρ lm A w _ _ ho => ?_⟩
      have h1 := ho x (by simp [hop, Op.operands])
      have h2 := ho ix (by simp [hop, Op.operands])
      rw [hx] at h1
      rw [hj] at h2
      obtain ⟨b, h3, hv⟩ := by simpa only [VRel] using h1
      simp only [VRel] at h2
      refine ⟨.pointer (some ⟨b, o' + j.toNat * ie.size, none⟩), ?_, ?_⟩
      · simp [execOp, hop, hv, h2, Instr.indexAt, asIntOf, Instr.sureAddr, ti.run_underlying, ti'.run_sizeOf, hc.1, hc.2, add_none]
      · simp only [VRel]
        exact ⟨b, h3, rfl⟩
    · cases h
  · cases h

theorem snd_index (ok : TabOK P T) {t : TypeId} {x ix : Operand} (hop : o.op = .index t x ix) (h : ((T.ti t).bind fun i =>
      match ev T e x, int? (some (ev T e ix)) .i64 with
      | .str s, some j => match i.agg, i.shape with
        | false, [.str] => match decide (0 ≤ j) && decide (j < s.size) with
          | true => k (.int .u8 ((s.data.toList.getD j.toNat 0).toNat : Int)) l σ
          | false => none
        | _, _ => none
      | .agg cs, some j => match i.kind with
        | .array n et => (T.ti et).bind fun ie => match decide (0 ≤ j) && decide (j < n) with
          | true => fetches ie.shape (fun m => cs[j.toNat * ie.size + m]?) 0 fun vs => k (ie.val vs) l σ
          | false => none
        | _ => none
      | _, _ => none) = some r) : Snd P T o e l σ k r := by
  obtain ⟨i, hi, h⟩ := Option.bind_eq_some_iff.1 h
  obtain ⟨inf, d, z, ti⟩ := ok.tis hi
  split at h
  · rename_i s j hx hj
    have hj := int64_some hj
    split at h
    · rename_i ha hs
      obtain rfl := ti.str hs ha
      split at h
      · rename_i hc
        simp only [Bool.and_eq_true, decide_eq_true_eq] at hc
        refine ⟨_, _, _, h, .pure fun ρ lm A w _ _ ho => ?_⟩
        have h1 := ho x (by simp [hop, Op.operands])
        have h2 := ho ix (by simp [hop, Op.operands])
        rw [hx] at h1
        rw [hj] at h2
        simp only [VRel] at h1 h2
        have hlt : j.toNat < s.size := by omega
        have hget : s[j.toNat]? = some s[j.toNat] := getElem?_pos s j.toNat hlt
        refine ⟨.int .u8 (s[j.toNat].toNat : Int), ?_, ?_⟩
        · simp [execOp, hop, h1, h2, Instr.index, asIntOf, ti.run_underlying, hc.1, hget]
        · simp only [VRel]
          have : s.data.toList.getD j.toNat 0 = s[j.toNat] := by
            have h' : j.toNat < s.data.toList.length := by rw [Array.length_toList]; exact hlt
            simp only [List.getD_eq_getElem?_getD, List.getElem?_eq_getElem h', Option.getD_some]
            rfl
          rw [this]
      · cases h
    · cases h
  · rename_i cs j hx hj
    have hj := int64_some hj
    split at h
    · rename_i n et hk
      obtain ⟨ie, hie, h⟩ := Option.bind_eq_some_iff.1 h
      obtain ⟨inf', d', z'', ti'⟩ := ok.tis hie
      split at h
      · rename_i hc
        simp only [Bool.and_eq_true, decide_eq_true_eq] at hc
        obtain ⟨zs, hk', hl, hz⟩ := fetches_some h
        obtain ⟨rfl, _⟩ := ti.arr hk
        refine ⟨_, _, _, hk', .pure fun ρ lm A w _ _ ho => ?_⟩
        have h1 := ho x (by simp [hop, Op.operands])
        have h2 := ho ix (by simp [hop, Op.operands])
        rw [hx] at h1
        rw [hj] at h2
        obtain ⟨us, hv, hr⟩ := by simpa only [VRel] using h1
        simp only [VRel] at h2
        obtain ⟨vs, l2, hr2, hcc⟩ := zs_rel (cell := fun m => us[j.toNat * ie.size + m]?) (fun m y hy => hr.get _ y hy) hz
        refine ⟨if ie.agg then .agg vs.toArray else vs.headD Go.undef, ?_, ti'.val_rel hl hr2⟩
        have := run_part_ti ok hie w us (j.toNat * ie.size) vs (l2.trans hl) hcc
        simp [execOp, hop, hv, h2, Instr.index, asIntOf, ti.run_underlying, ti'.run_sizeOf, hc.1, hc.2, this]
      · cases h
    · cases h
  · cases h

theorem bound_some {y : Option Operand} {d h' : Int} (h : (match y with | some y => int? (some (ev T e y)) .i64 | none => some d) = some h') :
    (y = none ∧ h' = d) ∨ ∃ u, y = some u ∧ ev T e u = .int .i64 h' := by
  cases y with
  | none => injection h with h; exact .inl ⟨rfl, h.symm⟩
  | some u => exact .inr ⟨u, rfl, int64_some h⟩

theorem run_bounds {isS : Bool} {n cap : Nat} {lo hi : Option Value} {h' w' : Int} (hh : (hi = none ∧ h' = n) ∨ hi = some (.int .i64 h')) (hw : (lo = none ∧ w' = 0) ∨ lo = some (.int .i64 w'))
    (c1 : 0 ≤ w') (c2 : w' ≤ h') (c3 : h' ≤ n) (hn : n ≤ cap) (w : World) : (Instr.sliceBounds isS n cap lo hi none).run P w = .ok (w'.toNat, h'.toNat, cap) w := by
  unfold Instr.sliceBounds
  rcases hh with ⟨rfl, rfl⟩ | rfl <;> rcases hw with ⟨rfl, rfl⟩ | rfl
  · simp
  · have : w' ≤ ((n : Int)) := by omega
    simp [Instr.sliceBound, asIntOf, c1, this]
  · have : h' ≤ (cap : Int) := by omega
    have h0 : 0 ≤ h' := by omega
    simp [Instr.sliceBound, asIntOf, h0, this]
  · have h1 : h' ≤ (cap : Int) := by omega
    have h0 : 0 ≤ h' := by omega
    have h2 : w' ≤ ((h'.toNat : Nat) : Int) := by omega
    simp only [Instr.sliceBound, asIntOf, Sem.run_bind, Sem.run_pure, Result.andThen_ok]
    rw [if_pos ⟨h0, h1⟩]
    simp only [Sem.run_pure, Result.andThen_ok]
    rw [if_pos ⟨c1, h2⟩]
    simp

theorem run_bounds3 {n cap : Nat} {lo : Option Value} {h' w' m' : Int} (hw : (lo = none ∧ w' = 0) ∨ lo = some (.int .i64 w'))
    (c1 : 0 ≤ w') (c2 : w' ≤ h') (c3 : h' ≤ m') (c4 : m' ≤ n) (hn : n ≤ cap) (w : World) : (Instr.sliceBounds true n cap lo (some (.int .i64 h')) (some (.int .i64 m'))).run P w = .ok (w'.toNat, h'.toNat, m'.toNat) w := by
  unfold Instr.sliceBounds
  have h1 : m' ≤ (cap : Int) := by omega
  have h0 : 0 ≤ m' := by omega
  have h2 : h' ≤ ((m'.toNat : Nat) : Int) := by omega
  have h3 : 0 ≤ h' := by omega
  have h4 : w' ≤ ((h'.toNat : Nat) : Int) := by omega
  rcases hw with ⟨rfl, rfl⟩ | rfl
  · simp only [Instr.sliceBound, asIntOf, Sem.run_bind, Sem.run_pure, Result.andThen_ok]
    rw [if_pos ⟨h0, h1⟩]
    simp only [Sem.run_pure, Result.andThen_ok]
    rw [if_pos ⟨h3, h2⟩]
    simp
  · simp only [Instr.sliceBound, asIntOf, Sem.run_bind, Sem.run_pure, Result.andThen_ok]
    rw [if_pos ⟨h0, h1⟩]
    simp only [Sem.run_pure, Result.andThen_ok]
    rw [if_pos ⟨h3, h2⟩]
    simp only [Sem.run_pure, Result.andThen_ok]
    rw [if_pos ⟨c1, h4⟩]
    simp

theorem snd_slice (ok : TabOK P T) {t : TypeId} {x : Operand} {lo hi mx : Option Operand} (hop : o.op = .slice t x lo hi mx) (h : ((T.ti t).bind fun i =>
      match ev T e x, mx with
      | .str s, none => match i.agg, i.shape with
        | false, [.str] =>
          (match hi with | some y => int? (some (ev T e y)) .i64 | none => some (s.size : Int)).bind fun h =>
          (match lo with | some y => int? (some (ev T e y)) .i64 | none => some 0).bind fun w =>
          match decide (0 ≤ w) && decide (w ≤ h) && decide (h ≤ s.size) with
            | true => k (.str (s.extract w.toNat h.toNat)) l σ
            | false => none
        | _, _ => none
      | .slice b o n z, none => match i.kind with
        | .slice et => (T.ti et).bind fun ie =>
          (match hi with | some y => int? (some (ev T e y)) .i64 | none => some (n : Int)).bind fun h =>
          (match lo with | some y => int? (some (ev T e y)) .i64 | none => some 0).bind fun w =>
          match decide (z = ie.size) with
          | true => match decide (0 ≤ w) && decide (w ≤ h) && decide (h ≤ n) with
            | true => k (.slice b (o + w.toNat * z) (h.toNat - w.toNat) z) l σ
            | false => none
          | false => none
        | _ => none
      | .slice b o n z, some m => match i.kind with
        | .slice et => (T.ti et).bind fun ie =>
          (match hi with | some y => int? (some (ev T e y)) .i64 | none => none).bind fun h =>
          (match lo with | some y => int? (some (ev T e y)) .i64 | none => some 0).bind fun w =>
          (int? (some (ev T e m)) .i64).bind fun m =>
          match decide (z = ie.size) with
          | true => match decide (0 ≤ w) && decide (w ≤ h) && decide (h ≤ m) && decide (m ≤ n) with
            | true => k (.slice b (o + w.toNat * z) (h.toNat - w.toNat) z) l σ
            | false => none
          | false => none
        | _ => none
      | _, _ => none) = some r) : Snd P T o e l σ k r := by
  rw [Option.bind_eq_some_iff] at h
  obtain ⟨i, hi', h⟩ := h
  obtain ⟨inf, d, z, ti⟩ := ok.tis hi'
  have conv : ∀ {ρ : Mp} {lm : Lp} {A : Act} {y : Option Operand} {d h' : Int}, (∀ u, y = some u → VRel ρ lm (ev T e u) (A.eval u)) → ((y = none ∧ h' = d) ∨ ∃ u, y = some u ∧ ev T e u = .int .i64 h') →
      (y.map A.eval = none ∧ h' = d) ∨ y.map A.eval = some (.int .i64 h') := by
    intro ρ lm A y d h' hv hy
    rcases hy with ⟨rfl, rfl⟩ | ⟨u, rfl, hu⟩
    · exact .inl ⟨rfl, rfl⟩
    · have := hv u rfl
      rw [hu] at this
      simp only [VRel] at this
      exact .inr (by simp [this])
  split at h
  · rename_i s hx
    split at h
    · rename_i ha hs
      obtain rfl := ti.str hs ha
      obtain ⟨h', hh, h⟩ := Option.bind_eq_some_iff.1 h
      obtain ⟨w', hw, h⟩ := Option.bind_eq_some_iff.1 h
      split at h
      · rename_i hc
        simp only [Bool.and_eq_true, decide_eq_true_eq] at hc
        refine ⟨_, _, _, h, .pure fun ρ lm A w _ _ ho => ?_⟩
        have h1 := ho x (by simp [hop, Op.operands])
        rw [hx] at h1
        simp only [VRel] at h1
        have b1 := conv (A := A) (fun u hu => ho u (by simp [hop, Op.operands, hu])) (bound_some hh)
        have b2 := conv (A := A) (fun u hu => ho u (by simp [hop, Op.operands, hu])) (bound_some hw)
        refine ⟨.string (s.extract w'.toNat h'.toNat), ?_, by simp [VRel]⟩
        have hb := run_bounds (P := P) (isS := false) (n := s.size) (cap := s.size) b1 b2 hc.1.1 hc.1.2 hc.2 (Nat.le_refl _) w
        simp [execOp, hop, h1, Instr.sliceAt, Instr.slice, ti.run_underlying, hb]
      · cases h
    · cases h
  · rename_i b o' n z' hx
    split at h
    · rename_i et hk
      obtain ⟨rfl, _, _⟩ := ti.slice hk
      obtain ⟨ie, hie, h⟩ := Option.bind_eq_some_iff.1 h
      obtain ⟨inf', d', z'', ti'⟩ := ok.tis hie
      obtain ⟨h', hh, h⟩ := Option.bind_eq_some_iff.1 h
      obtain ⟨w', hw, h⟩ := Option.bind_eq_some_iff.1 h
      split at h
      · rename_i c4
        simp only [decide_eq_true_eq] at c4
        split at h
        case h_2 => cases h
        rename_i hc
        simp only [Bool.and_eq_true, decide_eq_true_eq] at hc
        obtain ⟨⟨c1, c2⟩, c3⟩ := hc
        refine ⟨_, _, _, h, .pure fun ρ lm A w _ _ ho => ?_⟩
        have h1 := ho x (by simp [hop, Op.operands])
        rw [hx] at h1
        have b1 := conv (A := A) (fun u hu => ho u (by simp [hop, Op.operands, hu])) (bound_some hh)
        have b2 := conv (A := A) (fun u hu => ho u (by simp [hop, Op.operands, hu])) (bound_some hw)
        cases b with
        | none =>
          obtain ⟨rfl, rfl, hv⟩ := by simpa only [VRel] using h1
          have hb := run_bounds (P := P) (isS := true) (n := 0) (cap := 0) b1 b2 c1 c2 c3 (Nat.le_refl _) w
          have e1 : w'.toNat = 0 := by omega
          have e2 : h'.toNat = 0 := by omega
          rw [e1, e2] at hb
          refine ⟨.slice none 0 0, ?_, ?_⟩
          · simp [execOp, hop, hv, Instr.sliceAt, Instr.slice, ti.run_underlying, hb, ti'.run_sizeOf]
          · simp only [VRel, e1, e2]; simp
        | some b =>
          obtain ⟨pl, a, cap, h3, hv, h4, h5, h6⟩ := by simpa only [VRel] using h1
          have hb := run_bounds (P := P) (isS := true) (n := n) (cap := cap) b1 b2 c1 c2 c3 h4 w
          refine ⟨.slice (some (if cap = w'.toNat then a else a.add (w'.toNat * ie.size))) (h'.toNat - w'.toNat) (cap - w'.toNat), ?_, ?_⟩
          · simp only [execOp, hop, hv, Instr.sliceAt, Instr.slice, Sem.run_bind, ti.run_underlying, Result.andThen_ok, Option.map_none, hb, ti'.run_sizeOf, Sem.run_pure]
            by_cases e : cap = w'.toNat <;> simp [e]
          · simp only [VRel]
            refine ⟨pl, _, _, h3, rfl, by omega, by omega, ?_⟩
            by_cases e : cap = w'.toNat
            · exact .inl (by omega)
            · rw [if_neg e]
              rcases h6 with h6 | ⟨rfl, h6⟩
              · omega
              refine .inr ⟨by rw [add_none, c4, Nat.add_assoc], ?_⟩
              have : (cap - w'.toNat) * z' + w'.toNat * z' = cap * z' := by rw [← Nat.add_mul]; congr 1; omega
              omega
      · cases h
    · cases h
  · rename_i b o' n z' m0 hx
    split at h
    · rename_i et hk
      obtain ⟨rfl, _, _⟩ := ti.slice hk
      obtain ⟨ie, hie, h⟩ := Option.bind_eq_some_iff.1 h
      obtain ⟨inf', d', z'', ti'⟩ := ok.tis hie
      obtain ⟨h', hh, h⟩ := Option.bind_eq_some_iff.1 h
      obtain ⟨w', hw, h⟩ := Option.bind_eq_some_iff.1 h
      obtain ⟨m', hm, h⟩ := Option.bind_eq_some_iff.1 h
      split at h
      · rename_i c4
        simp only [decide_eq_true_eq] at c4
        split at h
        case h_2 => cases h
        rename_i hc
        simp only [Bool.and_eq_true, decide_eq_true_eq] at hc
        obtain ⟨⟨⟨c1, c2⟩, c3⟩, c5⟩ := hc
        obtain ⟨u, hu1, hu⟩ : ∃ u, hi = some u ∧ int? (some (ev T e u)) .i64 = some h' := by
          cases hi with
          | none => cases hh
          | some u => exact ⟨u, rfl, hh⟩
        refine ⟨_, _, _, h, .pure fun ρ lm A w _ _ ho => ?_⟩
        have h1 := ho x (by simp [hop, Op.operands])
        rw [hx] at h1
        have b0 := ho u (by simp [hop, Op.operands, hu1])
        rw [int64_some hu] at b0
        simp only [VRel] at b0
        have b3 := ho m0 (by simp [hop, Op.operands])
        rw [int64_some hm] at b3
        simp only [VRel] at b3
        have b2 := conv (A := A) (fun u hu => ho u (by simp [hop, Op.operands, hu])) (bound_some hw)
        cases b with
        | none =>
          obtain ⟨rfl, rfl, hv⟩ := by simpa only [VRel] using h1
          have hb := run_bounds3 (P := P) (n := 0) (cap := 0) b2 c1 c2 c3 c5 (Nat.le_refl _) w
          have e1 : w'.toNat = 0 := by omega
          have e2 : h'.toNat = 0 := by omega
          have e3 : m'.toNat = 0 := by omega
          rw [e1, e2, e3] at hb
          refine ⟨.slice none 0 0, ?_, ?_⟩
          · simp [execOp, hop, hv, hu1, b0, b3, Instr.sliceAt, Instr.slice, ti.run_underlying, hb, ti'.run_sizeOf]
          · simp only [VRel, e1, e2]; simp
        | some b =>
          obtain ⟨pl, a, cap, h3, hv, h4, h5, h6⟩ := by simpa only [VRel] using h1
          have hb := run_bounds3 (P := P) (n := n) (cap := cap) b2 c1 c2 c3 c5 h4 w
          refine ⟨.slice (some (if m'.toNat = w'.toNat then a else a.add (w'.toNat * ie.size))) (h'.toNat - w'.toNat) (m'.toNat - w'.toNat), ?_, ?_⟩
          · simp only [execOp, hop, hv, hu1, b0, b3, Instr.sliceAt, Instr.slice, Sem.run_bind, ti.run_underlying, Result.andThen_ok, Option.map_some, hb, ti'.run_sizeOf, Sem.run_pure]
            by_cases e : m'.toNat = w'.toNat <;> simp [e]
          · simp only [VRel]
            refine ⟨pl, _, _, h3, rfl, by omega, by omega, ?_⟩
            by_cases e : m'.toNat = w'.toNat
            · exact .inl (by omega)
            · rw [if_neg e]
              rcases h6 with h6 | ⟨rfl, h6⟩
              · omega
              refine .inr ⟨by rw [add_none, c4, Nat.add_assoc], ?_⟩
              have : (m'.toNat - w'.toNat) * z' + w'.toNat * z' = m'.toNat * z' := by rw [← Nat.add_mul]; congr 1; omega
              have : m'.toNat * z' ≤ cap * z' := Nat.mul_le_mul_right _ (by omega)
              omega
      · cases h
    · cases h
  · cases h

end
end Go.Abs
