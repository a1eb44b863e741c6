/-
Each operation: new memory, parts, addresses.
Each operation: new memory.
Each operation: literals, slices made, slices that grow.
Each operation: slices that grow, that are copied; builtins.
Maps: what is looked up, put, struck.
Each operation: builtins, conversions, ranges over texts.
Each operation: conversions, ranges over texts.
All operations; calls.
-/
import Derived.Test.YtnoplfndpemmpaaGreatDoorMAa
import Derived.Laws.Strings
import Derived.Lib.UnsafeStr
import Derived.Laws.Cover4
import Derived.Laws.BytesArg
import Derived.Lib.ConvBytes
namespace Go.Abs
open Go

theorem fieldsOk_get {P : Program} : ∀ {fs : List Field} {ps : List (Nat × TypeId)}, fieldsOk P fs ps = true → ∀ (j : Nat) (p : Nat × TypeId), ps[j]? = some p → ∃ f i, fs[j]? = some f ∧ f.offset = p.1 ∧ f.type = p.2 ∧ P.info? f.type = some i ∧ i.size ≠ 0
  | [], [], _, j, p, h => by simp at h
  | [], _ :: _, h, _, _, _ => by simp [fieldsOk] at h
  | _ :: _, [], h, _, _, _ => by simp [fieldsOk] at h
  | f :: fs, q :: ps, h, j, p, hj => by
    simp only [fieldsOk, Bool.and_eq_true, decide_eq_true_eq] at h
    obtain ⟨⟨⟨h1, h2⟩, h3⟩, h4⟩ := h
    cases j with
    | zero =>
      simp at hj
      subst hj
      split at h3
      · rename_i i hi
        exact ⟨f, i, rfl, h1, h2, hi, by simpa using h3⟩
      · cases h3
    | succ j => simpa using fieldsOk_get h4 j p (by simpa using hj)
theorem fieldsOk_len {P : Program} : ∀ {fs : List Field} {ps : List (Nat × TypeId)}, fieldsOk P fs ps = true → fs.length = ps.length
  | [], [], _ => rfl
  | [], _ :: _, h => by simp [fieldsOk] at h
  | _ :: _, [], h => by simp [fieldsOk] at h
  | f :: fs, q :: ps, h => by
    simp only [fieldsOk, Bool.and_eq_true] at h
    simp [fieldsOk_len h.2]

section
variable {P : Program} {T : Tab} {R : Type} {o : Oper} {e : Env} {l : Locs} {σ : Heap} {k : AVal → Locs → Heap → Option R} {r : R}

theorem snd_extract {t : Operand} {ix : Nat} (hop : o.op = .extract t ix) (h : (match ev T e t with
      | .tuple vs => (vs[ix]?).bind fun v => k v l σ
      | _ => none) = some r) : Snd P T o e l σ k r := by
  split at h
  · rename_i vs hx
    obtain ⟨v, hv, h⟩ := Option.bind_eq_some_iff.1 h
    refine ⟨_, _, _, h, .pure fun ρ lm A w _ _ ho => ?_⟩
    have h1 := ho t (by simp [hop, Op.operands])
    rw [hx] at h1
    obtain ⟨us, hu, hr⟩ := by simpa only [VRel] using h1
    obtain ⟨u, e1, hr1⟩ := hr.get ix v hv
    exact ⟨u, by simp [execOp, hop, hu, Instr.extract, e1], hr1⟩
  · cases h

theorem snd_makeIface (ok : TabOK P T) {t : TypeId} {x : Operand} (hop : o.op = .makeInterface t x) (h : (match T.conc t with
      | true => match (ev T e x).noLoc with
        | true => k (.iface t (ev T e x)) l σ
        | false => none
      | false => none) = some r) : Snd P T o e l σ k r := by
  split at h
  · rename_i hc
    split at h
    · obtain ⟨d, hd, hi⟩ := ok.conc t hc
      refine ⟨_, _, _, h, .pure fun ρ lm A w _ _ ho => ⟨.iface t (A.eval x), ?_, ?_⟩⟩
      · simp only [execOp, hop, Instr.makeInterface, Sem.run_bind, run_underlying hd, Result.andThen_ok]
        cases d <;> first | (cases hi; done) | rfl
      · simp only [VRel]
        exact ⟨_, rfl, ho x (by simp [hop, Op.operands])⟩
    · cases h
  · cases h
theorem snd_makeFunc {fn : Fn} {first caps : Array Operand} (hop : o.op = .makeFunc fn first caps) (h : (match first.size with
      | 0 => k (.func fn (caps.toList.map (ev T e))) l σ
      | _ => none) = some r) : Snd P T o e l σ k r := by
  split at h
  · rename_i hs
    have hf := Array.eq_empty_of_size_eq_zero hs
    subst hf
    refine ⟨_, _, _, h, .pure fun ρ lm A w _ _ ho => ⟨.func fn #[] (caps.map A.eval), by simp [execOp, hop, Instr.makeFunc], ?_⟩⟩
    simp only [VRel]
    refine ⟨caps.toList.map A.eval, by simp [← Array.toList_map], VRels.of_get (by simp) fun j x hx => ?_⟩
    simp only [List.getElem?_map, Option.map_eq_some_iff] at hx ⊢
    obtain ⟨y, hy, rfl⟩ := hx
    exact ⟨_, ⟨y, hy, rfl⟩, ho y (by simp only [hop, Op.operands, Array.empty_append]; exact List.mem_of_getElem? hy)⟩
  · cases h

theorem snd_fieldAddr (ok : TabOK P T) {s : TypeId} {x : Operand} {fd : Nat} (hop : o.op = .fieldAddr s x fd) (h : ((T.ti s).bind fun i =>
      match i.kind with
      | .struct fs => (fs[fd]?).bind fun p => match ev T e x with
        | .ptr q => q.bind fun q => k (.ptr (some (q.1, q.2 + p.1))) l σ
        | .lptr t o => k (.lptr t (o + p.1)) l σ
        | _ => none
      | _ => none) = some r) : Snd P T o e l σ k r := by
  obtain ⟨i, hi, h⟩ := Option.bind_eq_some_iff.1 h
  obtain ⟨inf, d, z, ti⟩ := ok.tis hi
  split at h
  · rename_i fs hk
    obtain ⟨fs', rfl, ha, hf⟩ := ti.struct hk
    obtain ⟨p, hp, h⟩ := Option.bind_eq_some_iff.1 h
    obtain ⟨f, fi, f1, f2, f3, f4, f5⟩ := fieldsOk_get hf fd p hp
    have run : ∀ (w : World) (b o' : Nat), (Instr.fieldAt s (.pointer (some ⟨b, o', none⟩)) fd).run P w = .ok (.pointer (some ⟨b, o' + p.1, none⟩)) w := fun w b o' => by
      have f1' : fs'[fd]? = some f := by simpa using f1
      simp only [Instr.fieldAt, Sem.run_bind, ti.run_underlying, Result.andThen_ok, f1', Instr.sureAddr, Sem.run_pure, fieldPlace, sizeOf, typeInfo, run_program, f4]
      rw [if_neg f5]
      simp [add_none, f2]
    split at h
    · rename_i q hx
      obtain ⟨⟨b, o'⟩, hq, h⟩ := Option.bind_eq_some_iff.1 h
      refine ⟨_, _, _, h, .pure fun ρ lm A w _ _ ho => ?_⟩
      have h1 := ho x (by simp [hop, Op.operands])
      rw [hx, hq] at h1
      obtain ⟨pl, h2, hv⟩ := by simpa only [VRel] using h1
      refine ⟨.pointer (some ⟨pl.blk, pl.off + o' + p.1, none⟩), by simp [execOp, hop, hv, run], ?_⟩
      simp only [VRel]
      exact ⟨pl, h2, by rw [Nat.add_assoc]⟩
    · rename_i t o' hx
      refine ⟨_, _, _, h, .pure fun ρ lm A w _ _ ho => ?_⟩
      have h1 := ho x (by simp [hop, Op.operands])
      rw [hx] at h1
      obtain ⟨b, h2, hv⟩ := by simpa only [VRel] using h1
      refine ⟨.pointer (some ⟨b, o' + p.1, none⟩), by simp [execOp, hop, hv, run], ?_⟩
      simp only [VRel]
      exact ⟨b, h2, rfl⟩
    · cases h
  · cases h

theorem run_part_ti (ok : TabOK P T) {t : TypeId} {i : TI} (hi : T.ti t = some i) (w : World) (xs : List Value) (o' : Nat) (ys : List Value) (hy : ys.length = i.size) (hc : ∀ j v, ys[j]? = some v → xs[o' + j]? = some v) :
    (part t xs.toArray o').run P w = .ok (if i.agg then .agg ys.toArray else ys.headD Go.undef) w := by
  obtain ⟨inf, d, z, ti⟩ := ok.tis hi
  unfold part
  simp only [Sem.run_bind, ti.run_isAgg, Result.andThen_ok]
  cases ha : i.agg with
  | true =>
    simp only [if_true, Sem.run_bind, ti.run_sizeOf, Result.andThen_ok, Sem.run_pure]
    congr 2
    apply Array.ext'
    simp only [Array.toList_extract, List.extract_eq_take_drop]
    apply List.ext_getElem?
    intro j
    rw [List.getElem?_take, List.getElem?_drop]
    by_cases hj : j < i.size
    · rw [if_pos (by omega)]
      have := hc j ys[j] (by simp [hy, hj])
      rw [this]
      simp [hy, hj]
    · rw [if_neg (by omega), List.getElem?_eq_none (by omega)]
  | false =>
    have h1 := ti.len1 ha
    rw [h1] at hy
    match ys, hy with
    | [y], _ =>
      have := hc 0 y rfl
      simp only [Nat.add_zero] at this
      simp [this]

theorem snd_field (ok : TabOK P T) {s : TypeId} {x : Operand} {fd : Nat} (hop : o.op = .field s x fd) (h : ((T.ti s).bind fun i =>
      match i.kind with
      | .struct fs => (fs[fd]?).bind fun p => (T.ti p.2).bind fun fi => match ev T e x with
        | .agg cs => fetches fi.shape (fun j => cs[p.1 + j]?) 0 fun vs => k (fi.val vs) l σ
        | _ => none
      | _ => none) = some r) : Snd P T o e l σ k r := by
  obtain ⟨i, hi, h⟩ := Option.bind_eq_some_iff.1 h
  obtain ⟨inf, d, z, ti⟩ := ok.tis hi
  split at h
  · rename_i fs hk
    obtain ⟨fs', rfl, ha, hf⟩ := ti.struct hk
    obtain ⟨p, hp, h⟩ := Option.bind_eq_some_iff.1 h
    obtain ⟨f, fi, f1, f2, f3, f4, f5⟩ := fieldsOk_get hf fd p hp
    obtain ⟨fi', hfi, h⟩ := Option.bind_eq_some_iff.1 h
    obtain ⟨inf', d', z', ti'⟩ := ok.tis hfi
    split at h
    · rename_i cs hx
      obtain ⟨zs, hk', hl, hz⟩ := fetches_some h
      refine ⟨_, _, _, hk', .pure fun ρ lm A w _ _ ho => ?_⟩
      have h1 := ho x (by simp [hop, Op.operands])
      rw [hx] at h1
      obtain ⟨us, hv, hr⟩ := by simpa only [VRel] using h1
      obtain ⟨vs, l2, hr2, hc⟩ := zs_rel (cell := fun m => us[p.1 + m]?) (fun m y hy => hr.get _ y hy) hz
      refine ⟨if fi'.agg then .agg vs.toArray else vs.headD Go.undef, ?_, ti'.val_rel hl hr2⟩
      have f1' : fs'[fd]? = some f := by simpa using f1
      have := run_part_ti ok hfi w us p.1 vs (l2.trans hl) hc
      simp [execOp, hop, hv, Instr.field, ti.run_underlying, f1', asAgg, f2, f3, this]
    · cases h
  · cases h

theorem int64_some {x : AVal} {j : Int} (h : int? (some x) .i64 = some j) : x = .int .i64 j := by
  unfold int? at h
  split at h
  · rename_i k n e
    injection e with e
    split at h
    · rename_i e2
      injection h with h
      rw [e, e2, h]
    · cases h
  · cases h

theorem idx_some {x : AVal} {j : Int} (h : idx? x = some j) : ∃ k, x = .int k j := by
  unfold idx? at h
  split at h
  · injection h with h
    exact ⟨_, by rw [h]⟩
  · cases h
theorem snd_indexAddr (ok : TabOK P T) {t : TypeId} {x ix : Operand} (hop : o.op = .indexAddr t x ix) (h : ((T.ti t).bind fun i =>
      match i.kind, ev T e x, idx? (ev T e ix) with
      | .slice et, .slice b o n z, some j => (T.ti et).bind fun ie => match decide (z = ie.size) with
        | true => match decide (0 ≤ j) && decide (j < n) with
          | true => b.bind fun b => k (.ptr (some (b, o + j.toNat * z))) l σ
          | false => none
        | false => none
      | .array n et, .ptr p, some j => (T.ti et).bind fun ie => match decide (0 ≤ j) && decide (j < n) with
        | true => p.bind fun q => k (.ptr (some (q.1, q.2 + j.toNat * ie.size))) l σ
        | false => none
      | .array n et, .lptr s o, some j => (T.ti et).bind fun ie => match decide (0 ≤ j) && decide (j < n) with
        | true => k (.lptr s (o + j.toNat * ie.size)) l σ
        | false => none
      | _, _, _ => none) = some r) : Snd P T o e l σ k r := by
  obtain ⟨i, hi, h⟩ := Option.bind_eq_some_iff.1 h
  obtain ⟨inf, d, z, ti⟩ := ok.tis hi
  split at h
  · rename_i et b o' n z' j hk hx hj
    obtain ⟨ie, hie, h⟩ := Option.bind_eq_some_iff.1 h
    obtain ⟨inf', d', z'', ti'⟩ := ok.tis hie
    split at h
    · rename_i c3
      simp only [decide_eq_true_eq] at c3
      split at h
      case h_2 => cases h
      rename_i hc
      simp only [Bool.and_eq_true, decide_eq_true_eq] at hc
      obtain ⟨b, rfl, h⟩ := Option.bind_eq_some_iff.1 h
      obtain ⟨rfl, _, _⟩ := ti.slice hk
      obtain ⟨kj, hj⟩ := idx_some hj
      refine ⟨_, _, _, h, .pure fun ρ lm A w _ _ ho => ?_⟩
      have h1 := ho x (by simp [hop, Op.operands])
      have h2 := ho ix (by simp [hop, Op.operands])
      rw [hx] at h1
      rw [hj] at h2
      obtain ⟨pl, a, cap, h3, hv, h4, h5, h6⟩ := by simpa only [VRel] using h1
      simp only [VRel] at h2
      obtain ⟨c1, c2⟩ := hc
      rcases h6 with h6 | ⟨rfl, _⟩
      · omega
      refine ⟨.pointer (some ⟨pl.blk, pl.off + o' + j.toNat * ie.size, none⟩), ?_, ?_⟩
      · simp [execOp, hop, hv, h2, Instr.indexAt, asIntOf, ti.run_underlying, ti'.run_sizeOf, c1, c2, add_none]
      · simp only [VRel]
        exact ⟨pl, h3, by rw [c3, Nat.add_assoc]⟩
    · cases h
  · rename_i n et p j hk hx hj
    obtain ⟨ie, hie, h⟩ := Option.bind_eq_some_iff.1 h
    obtain ⟨inf', d', z'', ti'⟩ := ok.tis hie
    split at h
    · rename_i hc
      simp only [Bool.and_eq_true, decide_eq_true_eq] at hc
      obtain ⟨⟨b, o'⟩, rfl, h⟩ := Option.bind_eq_some_iff.1 h
      obtain ⟨rfl, _⟩ := ti.arr hk
      obtain ⟨kj, hj⟩ := idx_some hj
      refine ⟨_, _, _, h, .pure fun ρ lm A w _ _ ho => ?_⟩
      have h1 := ho x (by simp [hop, Op.operands])
      have h2 := ho ix (by simp [hop, Op.operands])
      rw [hx] at h1
      rw [hj] at h2
      obtain ⟨pl, h3, hv⟩ := by simpa only [VRel] using h1
      simp only [VRel] at h2
      refine ⟨.pointer (some ⟨pl.blk, pl.off + o' + j.toNat * ie.size, none⟩), ?_, ?_⟩
      · simp [execOp, hop, hv, h2, Instr.indexAt, asIntOf, Instr.sureAddr, ti.run_underlying, ti'.run_sizeOf, hc.1, hc.2, add_none]
      · simp only [VRel]
        exact ⟨pl, h3, by rw [Nat.add_assoc]⟩
    · cases h
  · rename_i n et s o' j hk hx hj
    obtain ⟨ie, hie, h⟩ := Option.bind_eq_some_iff.1 h
    obtain ⟨inf', d', z'', ti'⟩ := ok.tis hie
    split at h
    · rename_i hc
      simp only [Bool.and_eq_true, decide_eq_true_eq] at hc
      obtain ⟨rfl, _⟩ := ti.arr hk
      obtain ⟨kj, hj⟩ := idx_some hj
      refine ⟨_, _, _, h, .pure fun ρ lm A w _ _ ho => ?_⟩
      have h1 := ho x (by simp [hop, Op.operands])
      have h2 := ho ix (by simp [hop, Op.operands])
      rw [hx] at h1
      rw [hj] at h2
      obtain ⟨b, h3, hv⟩ := by simpa only [VRel] using h1
      simp only [VRel] at h2
      refine ⟨.pointer (some ⟨b, o' + j.toNat * ie.size, none⟩), ?_, ?_⟩
      · simp [execOp, hop, hv, h2, Instr.indexAt, asIntOf, Instr.sureAddr, ti.run_underlying, ti'.run_sizeOf, hc.1, hc.2, add_none]
      · simp only [VRel]
        exact ⟨b, h3, rfl⟩
    · cases h
  · cases h

theorem snd_index (ok : TabOK P T) {t : TypeId} {x ix : Operand} (hop : o.op = .index t x ix) (h : ((T.ti t).bind fun i =>
      match ev T e x, idx? (ev T e ix) with
      | .str s, some j => match i.agg, i.shape with
        | false, [.str] => match decide (0 ≤ j) && decide (j < s.size) with
          | true => k (.int .u8 ((s.data.toList.getD j.toNat 0).toNat : Int)) l σ
          | false => none
        | _, _ => none
      | .agg cs, some j => match i.kind with
        | .array n et => (T.ti et).bind fun ie => match decide (0 ≤ j) && decide (j < n) with
          | true => fetches ie.shape (fun m => cs[j.toNat * ie.size + m]?) 0 fun vs => k (ie.val vs) l σ
          | false => none
        | _ => none
      | _, _ => none) = some r) : Snd P T o e l σ k r := by
  obtain ⟨i, hi, h⟩ := Option.bind_eq_some_iff.1 h
  obtain ⟨inf, d, z, ti⟩ := ok.tis hi
  split at h
  · rename_i s j hx hj
    obtain ⟨kj, hj⟩ := idx_some hj
    split at h
    · rename_i ha hs
      obtain rfl := ti.str hs ha
      split at h
      · rename_i hc
        simp only [Bool.and_eq_true, decide_eq_true_eq] at hc
        refine ⟨_, _, _, h, .pure fun ρ lm A w _ _ ho => ?_⟩
        have h1 := ho x (by simp [hop, Op.operands])
        have h2 := ho ix (by simp [hop, Op.operands])
        rw [hx] at h1
        rw [hj] at h2
        simp only [VRel] at h1 h2
        have hlt : j.toNat < s.size := by omega
        have hget : s[j.toNat]? = some s[j.toNat] := getElem?_pos s j.toNat hlt
        refine ⟨.int .u8 (s[j.toNat].toNat : Int), ?_, ?_⟩
        · simp [execOp, hop, h1, h2, Instr.index, asIntOf, ti.run_underlying, hc.1, hget]
        · simp only [VRel]
          have : s.data.toList.getD j.toNat 0 = s[j.toNat] := by
            have h' : j.toNat < s.data.toList.length := by rw [Array.length_toList]; exact hlt
            simp only [List.getD_eq_getElem?_getD, List.getElem?_eq_getElem h', Option.getD_some]
            rfl
          rw [this]
      · cases h
    · cases h
  · rename_i cs j hx hj
    obtain ⟨kj, hj⟩ := idx_some hj
    split at h
    · rename_i n et hk
      obtain ⟨ie, hie, h⟩ := Option.bind_eq_some_iff.1 h
      obtain ⟨inf', d', z'', ti'⟩ := ok.tis hie
      split at h
      · rename_i hc
        simp only [Bool.and_eq_true, decide_eq_true_eq] at hc
        obtain ⟨zs, hk', hl, hz⟩ := fetches_some h
        obtain ⟨rfl, _⟩ := ti.arr hk
        refine ⟨_, _, _, hk', .pure fun ρ lm A w _ _ ho => ?_⟩
        have h1 := ho x (by simp [hop, Op.operands])
        have h2 := ho ix (by simp [hop, Op.operands])
        rw [hx] at h1
        rw [hj] at h2
        obtain ⟨us, hv, hr⟩ := by simpa only [VRel] using h1
        simp only [VRel] at h2
        obtain ⟨vs, l2, hr2, hcc⟩ := zs_rel (cell := fun m => us[j.toNat * ie.size + m]?) (fun m y hy => hr.get _ y hy) hz
        refine ⟨if ie.agg then .agg vs.toArray else vs.headD Go.undef, ?_, ti'.val_rel hl hr2⟩
        have := run_part_ti ok hie w us (j.toNat * ie.size) vs (l2.trans hl) hcc
        simp [execOp, hop, hv, h2, Instr.index, asIntOf, ti.run_underlying, ti'.run_sizeOf, hc.1, hc.2, this]
      · cases h
    · cases h
  · cases h

theorem bound_some {y : Option Operand} {d h' : Int} (h : (match y with | some y => int? (some (ev T e y)) .i64 | none => some d) = some h') :
    (y = none ∧ h' = d) ∨ ∃ u, y = some u ∧ ev T e u = .int .i64 h' := by
  cases y with
  | none => injection h with h; exact .inl ⟨rfl, h.symm⟩
  | some u => exact .inr ⟨u, rfl, int64_some h⟩

theorem run_bounds {isS : Bool} {n cap : Nat} {lo hi : Option Value} {h' w' : Int} (hh : (hi = none ∧ h' = n) ∨ hi = some (.int .i64 h')) (hw : (lo = none ∧ w' = 0) ∨ lo = some (.int .i64 w'))
    (c1 : 0 ≤ w') (c2 : w' ≤ h') (c3 : h' ≤ n) (hn : n ≤ cap) (w : World) : (Instr.sliceBounds isS n cap lo hi none).run P w = .ok (w'.toNat, h'.toNat, cap) w := by
  unfold Instr.sliceBounds
  rcases hh with ⟨rfl, rfl⟩ | rfl <;> rcases hw with ⟨rfl, rfl⟩ | rfl
  · simp
  · have : w' ≤ ((n : Int)) := by omega
    simp [Instr.sliceBound, asIntOf, c1, this]
  · have : h' ≤ (cap : Int) := by omega
    have h0 : 0 ≤ h' := by omega
    simp [Instr.sliceBound, asIntOf, h0, this]
  · have h1 : h' ≤ (cap : Int) := by omega
    have h0 : 0 ≤ h' := by omega
    have h2 : w' ≤ ((h'.toNat : Nat) : Int) := by omega
    simp only [Instr.sliceBound, asIntOf, Sem.run_bind, Sem.run_pure, Result.andThen_ok]
    rw [if_pos ⟨h0, h1⟩]
    simp only [Sem.run_pure, Result.andThen_ok]
    rw [if_pos ⟨c1, h2⟩]
    simp

theorem run_bounds3 {n cap : Nat} {lo : Option Value} {h' w' m' : Int} (hw : (lo = none ∧ w' = 0) ∨ lo = some (.int .i64 w'))
    (c1 : 0 ≤ w') (c2 : w' ≤ h') (c3 : h' ≤ m') (c4 : m' ≤ n) (hn : n ≤ cap) (w : World) : (Instr.sliceBounds true n cap lo (some (.int .i64 h')) (some (.int .i64 m'))).run P w = .ok (w'.toNat, h'.toNat, m'.toNat) w := by
  unfold Instr.sliceBounds
  have h1 : m' ≤ (cap : Int) := by omega
  have h0 : 0 ≤ m' := by omega
  have h2 : h' ≤ ((m'.toNat : Nat) : Int) := by omega
  have h3 : 0 ≤ h' := by omega
  have h4 : w' ≤ ((h'.toNat : Nat) : Int) := by omega
  rcases hw with ⟨rfl, rfl⟩ | rfl
  · simp only [Instr.sliceBound, asIntOf, Sem.run_bind, Sem.run_pure, Result.andThen_ok]
    rw [if_pos ⟨h0, h1⟩]
    simp only [Sem.run_pure, Result.andThen_ok]
    rw [if_pos ⟨h3, h2⟩]
    simp
  · simp only [Instr.sliceBound, asIntOf, Sem.run_bind, Sem.run_pure, Result.andThen_ok]
    rw [if_pos ⟨h0, h1⟩]
    simp only [Sem.run_pure, Result.andThen_ok]
    rw [if_pos ⟨h3, h2⟩]
    simp only [Sem.run_pure, Result.andThen_ok]
    rw [if_pos ⟨c1, h4⟩]
    simp

theorem snd_slice (ok : TabOK P T) {t : TypeId} {x : Operand} {lo hi mx : Option Operand} (hop : o.op = .slice t x lo hi mx) (h : ((T.ti t).bind fun i =>
      match ev T e x, mx with
      | .str s, none => match i.agg, i.shape with
        | false, [.str] =>
          (match hi with | some y => int? (some (ev T e y)) .i64 | none => some (s.size : Int)).bind fun h =>
          (match lo with | some y => int? (some (ev T e y)) .i64 | none => some 0).bind fun w =>
          match decide (0 ≤ w) && decide (w ≤ h) && decide (h ≤ s.size) with
            | true => k (.str (s.extract w.toNat h.toNat)) l σ
            | false => none
        | _, _ => none
      | .slice b o n z, none => match i.kind with
        | .slice et => (T.ti et).bind fun ie =>
          (match hi with | some y => int? (some (ev T e y)) .i64 | none => some (n : Int)).bind fun h =>
          (match lo with | some y => int? (some (ev T e y)) .i64 | none => some 0).bind fun w =>
          match decide (z = ie.size) with
          | true => match decide (0 ≤ w) && decide (w ≤ h) && decide (h ≤ n) with
            | true => k (.slice b (o + w.toNat * z) (h.toNat - w.toNat) z) l σ
            | false => none
          | false => none
        | _ => none
      | .slice b o n z, some m => match i.kind with
        | .slice et => (T.ti et).bind fun ie =>
          (match hi with | some y => int? (some (ev T e y)) .i64 | none => none).bind fun h =>
          (match lo with | some y => int? (some (ev T e y)) .i64 | none => some 0).bind fun w =>
          (int? (some (ev T e m)) .i64).bind fun m =>
          match decide (z = ie.size) with
          | true => match decide (0 ≤ w) && decide (w ≤ h) && decide (h ≤ m) && decide (m ≤ n) with
            | true => k (.slice b (o + w.toNat * z) (h.toNat - w.toNat) z) l σ
            | false => none
          | false => none
        | _ => none
      | .ptr p, none => match i.kind with
        | .array n et => (T.ti et).bind fun ie =>
          (match hi with | some y => int? (some (ev T e y)) .i64 | none => some (n : Int)).bind fun h =>
          (match lo with | some y => int? (some (ev T e y)) .i64 | none => some 0).bind fun w =>
          p.bind fun q => (σ.row? q.1).bind fun cs =>
          match decide (n ≤ 16777216) && decide (q.2 + n * ie.size ≤ cs.length) with
          | true => match decide (0 ≤ w) && decide (w ≤ h) && decide (h ≤ n) with
            | true => k (.slice (some q.1) (q.2 + w.toNat * ie.size) (h.toNat - w.toNat) ie.size) l σ
            | false => none
          | false => none
        | _ => none
      | _, _ => none) = some r) : Snd P T o e l σ k r := by
  rw [Option.bind_eq_some_iff] at h
  obtain ⟨i, hi', h⟩ := h
  obtain ⟨inf, d, z, ti⟩ := ok.tis hi'
  have conv : ∀ {ρ : Mp} {lm : Lp} {A : Act} {y : Option Operand} {d h' : Int}, (∀ u, y = some u → VRel ρ lm (ev T e u) (A.eval u)) → ((y = none ∧ h' = d) ∨ ∃ u, y = some u ∧ ev T e u = .int .i64 h') →
      (y.map A.eval = none ∧ h' = d) ∨ y.map A.eval = some (.int .i64 h') := by
    intro ρ lm A y d h' hv hy
    rcases hy with ⟨rfl, rfl⟩ | ⟨u, rfl, hu⟩
    · exact .inl ⟨rfl, rfl⟩
    · have := hv u rfl
      rw [hu] at this
      simp only [VRel] at this
      exact .inr (by simp [this])
  split at h
  · rename_i s hx
    split at h
    · rename_i ha hs
      obtain rfl := ti.str hs ha
      obtain ⟨h', hh, h⟩ := Option.bind_eq_some_iff.1 h
      obtain ⟨w', hw, h⟩ := Option.bind_eq_some_iff.1 h
      split at h
      · rename_i hc
        simp only [Bool.and_eq_true, decide_eq_true_eq] at hc
        refine ⟨_, _, _, h, .pure fun ρ lm A w _ _ ho => ?_⟩
        have h1 := ho x (by simp [hop, Op.operands])
        rw [hx] at h1
        simp only [VRel] at h1
        have b1 := conv (A := A) (fun u hu => ho u (by simp [hop, Op.operands, hu])) (bound_some hh)
        have b2 := conv (A := A) (fun u hu => ho u (by simp [hop, Op.operands, hu])) (bound_some hw)
        refine ⟨.string (s.extract w'.toNat h'.toNat), ?_, by simp [VRel]⟩
        have hb := run_bounds (P := P) (isS := false) (n := s.size) (cap := s.size) b1 b2 hc.1.1 hc.1.2 hc.2 (Nat.le_refl _) w
        simp [execOp, hop, h1, Instr.sliceAt, Instr.slice, ti.run_underlying, hb]
      · cases h
    · cases h
  · rename_i b o' n z' hx
    split at h
    · rename_i et hk
      obtain ⟨rfl, _, _⟩ := ti.slice hk
      obtain ⟨ie, hie, h⟩ := Option.bind_eq_some_iff.1 h
      obtain ⟨inf', d', z'', ti'⟩ := ok.tis hie
      obtain ⟨h', hh, h⟩ := Option.bind_eq_some_iff.1 h
      obtain ⟨w', hw, h⟩ := Option.bind_eq_some_iff.1 h
      split at h
      · rename_i c4
        simp only [decide_eq_true_eq] at c4
        split at h
        case h_2 => cases h
        rename_i hc
        simp only [Bool.and_eq_true, decide_eq_true_eq] at hc
        obtain ⟨⟨c1, c2⟩, c3⟩ := hc
        refine ⟨_, _, _, h, .pure fun ρ lm A w _ _ ho => ?_⟩
        have h1 := ho x (by simp [hop, Op.operands])
        rw [hx] at h1
        have b1 := conv (A := A) (fun u hu => ho u (by simp [hop, Op.operands, hu])) (bound_some hh)
        have b2 := conv (A := A) (fun u hu => ho u (by simp [hop, Op.operands, hu])) (bound_some hw)
        cases b with
        | none =>
          obtain ⟨rfl, rfl, hv⟩ := by simpa only [VRel] using h1
          have hb := run_bounds (P := P) (isS := true) (n := 0) (cap := 0) b1 b2 c1 c2 c3 (Nat.le_refl _) w
          have e1 : w'.toNat = 0 := by omega
          have e2 : h'.toNat = 0 := by omega
          rw [e1, e2] at hb
          refine ⟨.slice none 0 0, ?_, ?_⟩
          · simp [execOp, hop, hv, Instr.sliceAt, Instr.slice, ti.run_underlying, hb, ti'.run_sizeOf]
          · simp only [VRel, e1, e2]; simp
        | some b =>
          obtain ⟨pl, a, cap, h3, hv, h4, h5, h6⟩ := by simpa only [VRel] using h1
          have hb := run_bounds (P := P) (isS := true) (n := n) (cap := cap) b1 b2 c1 c2 c3 h4 w
          refine ⟨.slice (some (if cap = w'.toNat then a else a.add (w'.toNat * ie.size))) (h'.toNat - w'.toNat) (cap - w'.toNat), ?_, ?_⟩
          · simp only [execOp, hop, hv, Instr.sliceAt, Instr.slice, Sem.run_bind, ti.run_underlying, Result.andThen_ok, Option.map_none, hb, ti'.run_sizeOf, Sem.run_pure]
            by_cases e : cap = w'.toNat <;> simp [e]
          · simp only [VRel]
            refine ⟨pl, _, _, h3, rfl, by omega, by omega, ?_⟩
            by_cases e : cap = w'.toNat
            · exact .inl (by omega)
            · rw [if_neg e]
              rcases h6 with h6 | ⟨rfl, h6⟩
              · omega
              refine .inr ⟨by rw [add_none, c4, Nat.add_assoc], ?_⟩
              have : (cap - w'.toNat) * z' + w'.toNat * z' = cap * z' := by rw [← Nat.add_mul]; congr 1; omega
              omega
      · cases h
    · cases h
  · rename_i b o' n z' m0 hx
    split at h
    · rename_i et hk
      obtain ⟨rfl, _, _⟩ := ti.slice hk
      obtain ⟨ie, hie, h⟩ := Option.bind_eq_some_iff.1 h
      obtain ⟨inf', d', z'', ti'⟩ := ok.tis hie
      obtain ⟨h', hh, h⟩ := Option.bind_eq_some_iff.1 h
      obtain ⟨w', hw, h⟩ := Option.bind_eq_some_iff.1 h
      obtain ⟨m', hm, h⟩ := Option.bind_eq_some_iff.1 h
      split at h
      · rename_i c4
        simp only [decide_eq_true_eq] at c4
        split at h
        case h_2 => cases h
        rename_i hc
        simp only [Bool.and_eq_true, decide_eq_true_eq] at hc
        obtain ⟨⟨⟨c1, c2⟩, c3⟩, c5⟩ := hc
        obtain ⟨u, hu1, hu⟩ : ∃ u, hi = some u ∧ int? (some (ev T e u)) .i64 = some h' := by
          cases hi with
          | none => cases hh
          | some u => exact ⟨u, rfl, hh⟩
        refine ⟨_, _, _, h, .pure fun ρ lm A w _ _ ho => ?_⟩
        have h1 := ho x (by simp [hop, Op.operands])
        rw [hx] at h1
        have b0 := ho u (by simp [hop, Op.operands, hu1])
        rw [int64_some hu] at b0
        simp only [VRel] at b0
        have b3 := ho m0 (by simp [hop, Op.operands])
        rw [int64_some hm] at b3
        simp only [VRel] at b3
        have b2 := conv (A := A) (fun u hu => ho u (by simp [hop, Op.operands, hu])) (bound_some hw)
        cases b with
        | none =>
          obtain ⟨rfl, rfl, hv⟩ := by simpa only [VRel] using h1
          have hb := run_bounds3 (P := P) (n := 0) (cap := 0) b2 c1 c2 c3 c5 (Nat.le_refl _) w
          have e1 : w'.toNat = 0 := by omega
          have e2 : h'.toNat = 0 := by omega
          have e3 : m'.toNat = 0 := by omega
          rw [e1, e2, e3] at hb
          refine ⟨.slice none 0 0, ?_, ?_⟩
          · simp [execOp, hop, hv, hu1, b0, b3, Instr.sliceAt, Instr.slice, ti.run_underlying, hb, ti'.run_sizeOf]
          · simp only [VRel, e1, e2]; simp
        | some b =>
          obtain ⟨pl, a, cap, h3, hv, h4, h5, h6⟩ := by simpa only [VRel] using h1
          have hb := run_bounds3 (P := P) (n := n) (cap := cap) b2 c1 c2 c3 c5 h4 w
          refine ⟨.slice (some (if m'.toNat = w'.toNat then a else a.add (w'.toNat * ie.size))) (h'.toNat - w'.toNat) (m'.toNat - w'.toNat), ?_, ?_⟩
          · simp only [execOp, hop, hv, hu1, b0, b3, Instr.sliceAt, Instr.slice, Sem.run_bind, ti.run_underlying, Result.andThen_ok, Option.map_some, hb, ti'.run_sizeOf, Sem.run_pure]
            by_cases e : m'.toNat = w'.toNat <;> simp [e]
          · simp only [VRel]
            refine ⟨pl, _, _, h3, rfl, by omega, by omega, ?_⟩
            by_cases e : m'.toNat = w'.toNat
            · exact .inl (by omega)
            · rw [if_neg e]
              rcases h6 with h6 | ⟨rfl, h6⟩
              · omega
              refine .inr ⟨by rw [add_none, c4, Nat.add_assoc], ?_⟩
              have : (m'.toNat - w'.toNat) * z' + w'.toNat * z' = m'.toNat * z' := by rw [← Nat.add_mul]; congr 1; omega
              have : m'.toNat * z' ≤ cap * z' := Nat.mul_le_mul_right _ (by omega)
              omega
      · cases h
    · cases h
  · rename_i p hx
    split at h
    · rename_i n et hka
      · obtain ⟨rfl, _⟩ := ti.arr hka
        obtain ⟨ie, hie, h⟩ := Option.bind_eq_some_iff.1 h
        obtain ⟨inf', d', z'', ti'⟩ := ok.tis hie
        obtain ⟨h', hh, h⟩ := Option.bind_eq_some_iff.1 h
        obtain ⟨w', hw, h⟩ := Option.bind_eq_some_iff.1 h
        obtain ⟨⟨b, o'⟩, hq, h⟩ := Option.bind_eq_some_iff.1 h
        obtain ⟨cs, hrow, h⟩ := Option.bind_eq_some_iff.1 h
        split at h
        case h_2 => cases h
        rename_i c4
        simp only [Bool.and_eq_true, decide_eq_true_eq] at c4
        split at h
        case h_2 => cases h
        rename_i hc
        simp only [Bool.and_eq_true, decide_eq_true_eq] at hc
        obtain ⟨⟨c1, c2⟩, c3⟩ := hc
        refine ⟨_, _, _, h, .pure fun ρ lm A w hH _ ho => ?_⟩
        have h1 := ho x (by simp [hop, Op.operands])
        rw [hx, hq] at h1
        obtain ⟨pl, hp, hv⟩ := by simpa only [VRel] using h1
        have b1 := conv (A := A) (fun u hu => ho u (by simp [hop, Op.operands, hu])) (bound_some hh)
        have b2 := conv (A := A) (fun u hu => ho u (by simp [hop, Op.operands, hu])) (bound_some hw)
        have hb := run_bounds (P := P) (isS := false) (n := n) (cap := n) b1 b2 c1 c2 c3 (Nat.le_refl _) w
        obtain ⟨xb, hxb, hB⟩ := hH.blk b pl hp
        obtain ⟨m, hm, hmd⟩ := row?_some hrow
        rw [hm] at hxb
        injection hxb with hxb
        subst hxb
        have hsz : pl.off + cs.length ≤ pl.size := by
          cases m with
          | dead => exact absurd rfl hmd
          | ro => obtain ⟨c, ty, fr, g1, g2, g3, _⟩ := hB; omega
          | rw => obtain ⟨c, ty, fr, g1, g2, g3, _⟩ := hB; omega
        refine ⟨.slice (some (if n = w'.toNat then ⟨pl.blk, pl.off + o', none⟩ else (⟨pl.blk, pl.off + o', none⟩ : Addr).add (w'.toNat * ie.size))) (h'.toNat - w'.toNat) (n - w'.toNat), ?_, ?_⟩
        · simp only [execOp, hop, hv, Instr.sliceAt, Instr.sureAddr, Sem.run_bind, ti.run_underlying, Result.andThen_ok, Option.map_none, hb, ti'.run_sizeOf, Sem.run_pure]
        · simp only [VRel]
          refine ⟨pl, _, _, hp, rfl, by omega, by omega, ?_⟩
          by_cases e : n = w'.toNat
          · exact .inl (by omega)
          · rw [if_neg e]
            refine .inr ⟨by rw [add_none, Nat.add_assoc], ?_⟩
            have : (n - w'.toNat) * ie.size + w'.toNat * ie.size = n * ie.size := by rw [← Nat.add_mul]; congr 1; omega
            omega
    · cases h
  · cases h

end
end Go.Abs
namespace Go.Abs
open Go

theorem unfrozen0 (n : Nat) : Unfrozen (0, 0) n := ⟨Nat.le_refl _, fun j _ h => by simp at h⟩

theorem alloc_get (w : World) (o : Obj) : (w.alloc o).heap[w.heap.size]? = some o := by
  show (w.heap.push o)[w.heap.size]? = _
  simp

section
variable {P : Program} {T : Tab} {R : Type} {o : Oper} {e : Env} {l : Locs} {σ : Heap} {k : AVal → Locs → Heap → Option R} {r : R}

/-- NEW CELLS, in the heap. -/
theorem new_row {ρ : Mp} {lm : Lp} {w : World} (hH : HRel ρ σ w) (hL : LRel ρ lm l σ w) (cs : List AVal) (c : Array Value) (ty : TypeId) (hr : VRels ρ noL cs (c.toList.take cs.length)) (hl : cs.length ≤ c.size) (h1 : Ones c) :
    HRel (upd ρ σ.length ⟨w.heap.size, 0, c.size, ty⟩) (σ ++ [.row cs .rw]) (w.alloc (.cells c ty)) ∧ LRel (upd ρ σ.length ⟨w.heap.size, 0, c.size, ty⟩) lm l (σ ++ [.row cs .rw]) (w.alloc (.cells c ty)) ∧
      Step ρ lm l σ w (upd ρ σ.length ⟨w.heap.size, 0, c.size, ty⟩) lm l (σ ++ [.row cs .rw]) (w.alloc (.cells c ty)) := by
  refine new_block hH hL (.cells c ty) (.row cs .rw) c.size ty rfl rfl rfl rfl ⟨c, ty, (0, 0), alloc_get w _, rfl, by simpa using hl, fun j x hx => ?_, fun _ => unfrozen0 _, h1.at _ _ _, rfl⟩ rfl
  obtain ⟨v, e1, r1⟩ := hr.get j x hx
  refine ⟨v, ?_, r1⟩
  have hj := (List.getElem?_eq_some_iff.1 hx).1
  rw [List.getElem?_take, if_pos hj] at e1
  simpa using e1

/-- New cells, of the frame's own. -/
theorem new_own {ρ : Mp} {lm : Lp} {w : World} (hH : HRel ρ σ w) (hL : LRel ρ lm l σ w) (d : Nat) (hd : l[d]? = some .none) (cs : List AVal) (c : Array Value) (ty : TypeId) (hr : VRels ρ noL cs c.toList) (h1 : Ones c) :
    HRel ρ σ (w.alloc (.cells c ty)) ∧ LRel ρ (upd lm d w.heap.size) (l.set d (.cells cs)) σ (w.alloc (.cells c ty)) ∧ Step ρ lm l σ w ρ (upd lm d w.heap.size) (l.set d (.cells cs)) σ (w.alloc (.cells c ty)) ∧
      LExt lm (upd lm d w.heap.size) l w (some d) := by
  have hn : lm d = none := by
    cases h : lm d with
    | none => rfl
    | some k' =>
      have := (hL.loc d k' h).2
      simp [List.getD, hd, LOne] at this
  obtain ⟨h1, h2, h3⟩ := new_local (w' := w.alloc (.cells c ty)) hH hL (.cells c ty) (.cells cs) d hn (List.getElem?_eq_some_iff.1 hd).1 rfl rfl rfl rfl ⟨c, ty, (0, 0), alloc_get w _, unfrozen0 _, hr, h1⟩
  refine ⟨h1, h2, h3, upd_ext _ hn, fun t k h0 h1 => ?_⟩
  by_cases e : t = d
  · subst e; rw [upd_same] at h1; injection h1 with h1; exact ⟨rfl, hd, by omega⟩
  · rw [upd_ne _ _ e, h0] at h1; cases h1

theorem snd_alloc (ok : TabOK P T) {f : FuncId} {t : TypeId} (hop : o.op = .alloc t) (h : ((T.ti t).bind fun i =>
      match o.dst with
      | some d => match T.loc f d with
        | true => match l[d]? with
          | some .none => k (.lptr d 0) (l.set d (.cells i.zeros)) σ
          | _ => none
        | false => match T.tag t with
          | true => k (.ptr (some (σ.length, 0))) l (σ ++ [.row i.zeros .rw] ++ [.tys σ.length t i.zeros.length])
          | false => k (.ptr (some (σ.length, 0))) l (σ ++ [.row i.zeros .rw])
      | none => none) = some r) : Snd P T o e l σ k r := by
  rw [Option.bind_eq_some_iff] at h
  obtain ⟨i, hi, h⟩ := h
  obtain ⟨inf, d', z, ti⟩ := ok.tis hi
  have run : ∀ (a : Act) (w : World), (execOp a.eval o).run P w = .ok (.value (.pointer (some ⟨w.heap.size, 0, none⟩))) (w.alloc (.cells z.cells t)) := fun a w => by
    simp only [execOp, hop, Instr.alloc, Sem.run_bind, ti.run_zeroValue, Result.andThen_ok, newVar, newRow, run_newObj, Sem.run_pure]
    rfl
  split at h
  · rename_i d hd
    split at h
    · split at h
      · rename_i hl
        refine ⟨_, _, _, h, .of_run fun ρ lm a w hH hL ho => ?_⟩
        obtain ⟨h1, h2, h3, h4⟩ := new_own hH hL d hl i.zeros z.cells t (ti.rel ρ noL) ti.ones
        refine ⟨_, _, _, _, _, run a w, .inl rfl, h1, h2, ?_, h3, by rw [hd]; exact h4⟩
        simp only [VRel]
        exact ⟨w.heap.size, upd_same _ _ _, rfl⟩
      · cases h
    · split at h
      · refine ⟨_, _, _, h, .of_run fun ρ lm a w hH hL ho => ?_⟩
        have hz := ti.rel ρ noL
        have hlen := hz.length
        have hsz : i.zeros.length ≤ z.cells.size := by rw [← Array.length_toList, hlen]; exact Nat.le_refl _
        obtain ⟨h1, h2, h3⟩ := new_row hH hL i.zeros z.cells t (by rw [List.take_of_length_le (by rw [hlen]; exact Nat.le_refl _)]; exact hz) hsz ti.ones
        obtain ⟨g1, g2, g3⟩ := new_ghost h1 h2 (sz := i.zeros.length) (upd_same _ _ _) rfl rfl (.inr (by rw [← hlen]; simp))
        refine ⟨_, _, _, _, _, run a w, .inl rfl, g1, g2, ?_, h3.trans g3, LExt.refl ..⟩
        simp only [VRel]
        exact ⟨_, upd_same _ _ _, rfl⟩
      · refine ⟨_, _, _, h, .of_run fun ρ lm a w hH hL ho => ?_⟩
        have hz := ti.rel ρ noL
        have hlen := hz.length
        have hsz : i.zeros.length ≤ z.cells.size := by rw [← Array.length_toList, hlen]; exact Nat.le_refl _
        obtain ⟨h1, h2, h3⟩ := new_row hH hL i.zeros z.cells t (by rw [List.take_of_length_le (by rw [hlen]; exact Nat.le_refl _)]; exact hz) hsz ti.ones
        refine ⟨_, _, _, _, _, run a w, .inl rfl, h1, h2, ?_, h3, LExt.refl ..⟩
        simp only [VRel]
        exact ⟨_, upd_same _ _ _, rfl⟩
  · cases h

theorem snd_box {f : FuncId} {t : TypeId} {x : Operand} (hop : o.op = .box t x) (h : ((T.ti t).bind fun _ =>
      match cellAll (ev T e x).cells with
      | true => match o.dst with
        | some d => match T.loc f d with
          | true => match l[d]? with
            | some .none => k (.lptr d 0) (l.set d (.cells (ev T e x).cells)) σ
            | _ => none
          | false => k (.ptr (some (σ.length, 0))) l (σ ++ [.row (ev T e x).cells .rw])
        | none => none
      | false => none) = some r) : Snd P T o e l σ k r := by
  rw [Option.bind_eq_some_iff] at h
  obtain ⟨i, hi, h⟩ := h
  have run : ∀ (a : Act) (w : World), (execOp a.eval o).run P w = .ok (.value (.pointer (some ⟨w.heap.size, 0, none⟩))) (w.alloc (.cells (a.eval x).cells t)) := fun a w => by
    simp only [execOp, hop, Instr.box, Sem.run_bind, Result.andThen_ok, newVar, newRow, run_newObj, Sem.run_pure]
    rfl
  split at h
  · rename_i hc
    have ones : ∀ {ρ : Mp} {lm : Lp} {a : Act}, (∀ y ∈ o.op.operands.toList, VRel ρ lm (ev T e y) (a.eval y)) → Ones (a.eval x).cells := fun ho =>
      oneCells (cells_rel (ho x (by simp [hop, Op.operands])) hc) hc
    have rel : ∀ {ρ : Mp} {lm : Lp} {a : Act}, (∀ y ∈ o.op.operands.toList, VRel ρ lm (ev T e y) (a.eval y)) → VRels ρ noL (ev T e x).cells (a.eval x).cells.toList := fun ho =>
      (cells_rel (ho x (by simp [hop, Op.operands])) hc).noLoc (noLocs_of_cellAll hc)
    split at h
    · rename_i d hd
      split at h
      · split at h
        · rename_i hl
          refine ⟨_, _, _, h, .of_run fun ρ lm a w hH hL ho => ?_⟩
          obtain ⟨h1, h2, h3, h4⟩ := new_own hH hL d hl _ _ t (rel ho) (ones ho)
          refine ⟨_, _, _, _, _, run a w, .inl rfl, h1, h2, ?_, h3, by rw [hd]; exact h4⟩
          simp only [VRel]
          exact ⟨w.heap.size, upd_same _ _ _, rfl⟩
        · cases h
      · refine ⟨_, _, _, h, .of_run fun ρ lm a w hH hL ho => ?_⟩
        have hz := rel ho
        have hlen := hz.length
        obtain ⟨h1, h2, h3⟩ := new_row hH hL _ (a.eval x).cells t (by rw [List.take_of_length_le (by rw [hlen]; exact Nat.le_refl _)]; exact hz) (by rw [← Array.length_toList, hlen]; exact Nat.le_refl _) (ones ho)
        refine ⟨_, _, _, _, _, run a w, .inl rfl, h1, h2, ?_, h3, LExt.refl ..⟩
        simp only [VRel]
        exact ⟨_, upd_same _ _ _, rfl⟩
    · cases h
  · cases h

/-! ### Literals -/
def overwriteV : List Value → Nat → List Value → List Value
  | cs, _, [] => cs
  | cs, o, v :: vs => overwriteV (cs.set o v) (o + 1) vs
theorem overwrite_rel {ρ : Mp} {lm : Lp} : ∀ {xs : List AVal} {vs : List Value} {cs : List AVal} {us : List Value} {o : Nat}, VRels ρ lm xs vs → VRels ρ lm cs us → VRels ρ lm (overwrite cs o xs) (overwriteV us o vs)
  | [], _, cs, us, o, h, h' => by simp only [VRels] at h; subst h; exact h'
  | x :: xs, _, cs, us, o, h, h' => by
    obtain ⟨v, vs, rfl, h1, h2⟩ := by simpa only [VRels] using h
    simp only [overwrite, overwriteV]
    refine overwrite_rel h2 (VRels.of_get (by simp [h'.length]) fun j y hy => ?_)
    by_cases e : j = o
    · subst e
      have hj : j < cs.length := by have := (List.getElem?_eq_some_iff.1 hy).1; simpa using this
      simp [hj] at hy
      subst hy
      exact ⟨v, by simp [h'.length, hj], h1⟩
    · rw [List.getElem?_set_ne (Ne.symm e)] at hy ⊢
      exact h'.get j y hy

theorem foldl_overwrite : ∀ (vs : List Value) (m off : Nat) (cs : Array Value), ((vs.zipIdx m).foldl (fun (cs : Array Value) (p : Value × Nat) => cs.setIfInBounds (off + p.2) p.1) cs).toList = overwriteV cs.toList (off + m) vs
  | [], _, _, _ => rfl
  | v :: vs, m, off, cs => by
    rw [List.zipIdx_cons, List.foldl_cons, foldl_overwrite vs (m + 1) off]
    simp [overwriteV, Nat.add_assoc]

theorem fillC_rel {ρ : Mp} {lm : Lp} {place : Nat → Option (Nat × Nat)} {place' : Nat → Option (Nat × Nat)} (hp : ∀ j p, place j = some p → place' j = some p) :
    ∀ {parts : List (Nat × AVal)} {parts' : List (Nat × Value)} {cs cs' : List AVal} {us : Array Value}, parts'.length = parts.length →
      (∀ (j : Nat) (p : Nat × AVal), parts[j]? = some p → ∃ v, parts'[j]? = some (p.1, v) ∧ VRel ρ lm p.2 v ∧ VRels ρ lm p.2.cells v.cells.toList) → VRels ρ lm cs us.toList → fillC place cs parts = some cs' →
      ∃ us', Instr.fill place' us parts' = some us' ∧ VRels ρ lm cs' us'.toList
  | [], parts', cs, cs', us, hl, _, hr, h => by
    obtain rfl := List.eq_nil_of_length_eq_zero hl
    simp only [fillC, Option.some.injEq] at h
    subst h
    exact ⟨us, rfl, hr⟩
  | (i, v) :: rest, [], _, _, _, hl, _, _, _ => by simp at hl
  | (i, v) :: rest, (i', v') :: rest', cs, cs', us, hl, hv, hr, h => by
    obtain ⟨u, e1, r1, r2⟩ := hv 0 (i, v) rfl
    simp at e1
    obtain ⟨rfl, rfl⟩ := e1
    simp only [fillC] at h
    split at h
    · cases h
    · rename_i off size hpl
      split at h
      · rename_i hs
        split at h
        · rename_i hb
          have hlu := hr.length
          have hlv := r2.length
          simp only [Instr.fill, hp _ _ hpl]
          rw [if_neg (by simp at hlu hlv ⊢; omega)]
          refine fillC_rel hp (by simpa using hl) (fun j p hj => hv (j + 1) p (by simpa using hj)) ?_ h
          have := foldl_overwrite v'.cells.toList 0 off us
          rw [Nat.add_zero] at this
          rw [← Array.foldl_toList, Array.toList_zipIdx, this]
          exact overwrite_rel r2 hr
        · cases h
      · cases h

theorem fillC_len {place : Nat → Option (Nat × Nat)} : ∀ {parts : List (Nat × AVal)} {cs cs' : List AVal}, fillC place cs parts = some cs' → cs'.length = cs.length
  | [], cs, cs', h => by simp only [fillC, Option.some.injEq] at h; rw [h]
  | (i, v) :: rest, cs, cs', h => by
    simp only [fillC] at h
    split at h
    · cases h
    · split at h
      · split at h
        · rw [fillC_len h, overwrite_length]
        · cases h
      · cases h

theorem cellAll_of : ∀ {cs : List AVal}, (∀ x ∈ cs, x.isCell = true) → cellAll cs = true
  | [], _ => rfl
  | c :: cs, h => by
    have h1 := h c (by simp)
    have h2 : cellAll cs = true := cellAll_of fun x hx => h x (List.mem_cons_of_mem _ hx)
    simp [cellAll, h1, h2]
theorem mem_overwrite : ∀ {xs cs : List AVal} {o : Nat} {y : AVal}, y ∈ overwrite cs o xs → y ∈ xs ∨ y ∈ cs
  | [], _, _, _, h => .inr h
  | x :: xs, cs, o, y, h => by
    simp only [overwrite] at h
    rcases mem_overwrite h with h | h
    · exact .inl (by simp [h])
    · rcases List.mem_or_eq_of_mem_set h with h | h
      · exact .inr h
      · exact .inl (by simp [h])
theorem fillC_cells {place : Nat → Option (Nat × Nat)} : ∀ {parts : List (Nat × AVal)} {cs cs' : List AVal}, (∀ p ∈ parts, cellAll p.2.cells = true) → cellAll cs = true → fillC place cs parts = some cs' → cellAll cs' = true
  | [], cs, cs', _, hc, h => by simp only [fillC, Option.some.injEq] at h; rw [← h]; exact hc
  | (i, v) :: rest, cs, cs', hp, hc, h => by
    simp only [fillC] at h
    split at h
    · cases h
    · split at h
      · split at h
        · refine fillC_cells (fun p hp' => hp p (by simp [hp'])) (cellAll_of fun x hx => ?_) h
          rcases mem_overwrite hx with hx | hx
          · exact cellAll_mem (hp (i, v) (by simp)) x hx
          · exact cellAll_mem hc x hx
        · cases h
      · cases h
theorem cellAll_zeros (i : TI) : cellAll i.zeros = true := cellAll_of fun x hx => by
  obtain ⟨s, _, rfl⟩ := List.mem_map.1 hx
  cases s <;> rfl
theorem cellAll_flat {xs : List AVal} (h : cellAll xs = true) (n : Nat) : cellAll ((List.replicate n xs).flatten) = true := cellAll_of fun x hx => by
  obtain ⟨ys, hy, hx⟩ := List.mem_flatten.1 hx
  obtain ⟨_, e⟩ := List.mem_replicate.1 hy
  rw [e] at hx
  exact cellAll_mem h x hx

theorem parts_rel {ρ : Mp} {lm : Lp} {A : Act} {parts : Array (Nat × Operand)} (ho : ∀ p ∈ parts.toList, VRel ρ lm (ev T e p.2) (A.eval p.2)) (hc : partsOk T e parts = true) :
    ((parts.map fun p => (p.1, A.eval p.2)).toList.length = (parts.toList.map fun p => (p.1, ev T e p.2)).length) ∧
    ∀ (j : Nat) (p : Nat × AVal), (parts.toList.map fun p => (p.1, ev T e p.2))[j]? = some p → ∃ v, (parts.map fun p => (p.1, A.eval p.2)).toList[j]? = some (p.1, v) ∧ VRel ρ noL p.2 v ∧ VRels ρ noL p.2.cells v.cells.toList := by
  refine ⟨by simp, fun j p hp => ?_⟩
  simp only [List.getElem?_map, Option.map_eq_some_iff] at hp
  obtain ⟨q, hq, rfl⟩ := hp
  have hm := List.mem_of_getElem? hq
  have h1 := ho q hm
  have h2 : cellAll (ev T e q.2).cells = true := by
    have := List.all_eq_true.1 hc q hm
    simpa using this
  refine ⟨A.eval q.2, by simp [Array.toList_map, hq], ?_, (cells_rel h1 h2).noLoc (noLocs_of_cellAll h2)⟩
  refine h1.noLoc ?_
  have := noLocs_of_cellAll h2
  cases hx : ev T e q.2 <;> rw [hx] at this <;> first | (simpa [AVal.cells, noLocs] using this) | (simpa [AVal.cells, noLocs, AVal.noLoc] using this)

end
end Go.Abs
namespace Go.Abs
open Go

theorem flat_get {α : Type} (xs : List α) : ∀ (n j : Nat), j < n * xs.length → ((List.replicate n xs).flatten)[j]? = xs[j % xs.length]?
  | 0, j, h => by simp at h
  | n + 1, j, h => by
    rw [List.replicate_succ, List.flatten_cons]
    rcases Nat.lt_or_ge j xs.length with hj | hj
    · rw [List.getElem?_append_left hj, Nat.mod_eq_of_lt hj]
    · rw [List.getElem?_append_right hj, flat_get xs n (j - xs.length) (by rw [Nat.succ_mul] at h; omega)]
      congr 1
      exact (Nat.mod_eq_sub_mod hj).symm
theorem flat_len {α : Type} (xs : List α) (n : Nat) : ((List.replicate n xs).flatten).length = n * xs.length := by
  simp

/-- Zero cells, so many. -/
theorem zeros_rel {ρ : Mp} {lm : Lp} {xs : List AVal} {z : Array Value} (h : VRels ρ lm xs z.toList) (n m : Nat) (hm : m = n * xs.length) :
    VRels ρ lm ((List.replicate n xs).flatten) ((Array.range m).map (fun j => z[j % z.size]!)).toList := by
  have hl := h.length
  have hz : z.size = xs.length := by rw [← hl]; simp
  refine VRels.of_get (by simp [hm]) fun j x hx => ?_
  have hj : j < n * xs.length := by
    have := (List.getElem?_eq_some_iff.1 hx).1
    rwa [flat_len] at this
  rw [flat_get _ _ _ hj] at hx
  obtain ⟨v, hv, hr⟩ := h.get _ x hx
  refine ⟨v, ?_, hr⟩
  have hlt : j % xs.length < z.size := by rw [hz]; exact Nat.mod_lt _ (Nat.pos_of_ne_zero fun e => by rw [e] at hj; simp at hj)
  simp only [Array.toList_map, List.getElem?_map, Array.getElem?_toList]
  have : (Array.range m)[j]? = some j := by simp [hm, hj]
  rw [this]
  simp only [Option.map_some, hz]
  rw [getElem!_pos z _ hlt]
  rw [Array.getElem?_toList] at hv
  rw [Array.getElem?_eq_getElem hlt] at hv
  exact hv

section
variable {P : Program} {T : Tab} {R : Type} {o : Oper} {e : Env} {l : Locs} {σ : Heap} {k : AVal → Locs → Heap → Option R} {r : R}

theorem run_mapM_list {α β : Type} (f : α → Sem β) (g : α → β) (w : World) : ∀ (xs : List α), (∀ x ∈ xs, (f x).run P w = .ok (g x) w) → (xs.mapM f).run P w = .ok (xs.map g) w
  | [], _ => by simp
  | x :: xs, h => by
    simp only [List.mapM_cons, Sem.run_bind, h x (by simp), Result.andThen_ok, run_mapM_list f g w xs (fun y hy => h y (by simp [hy])), Sem.run_pure, List.map_cons]
theorem run_mapM_array {α β : Type} (f : α → Sem β) (g : α → β) (w : World) (xs : Array α) (h : ∀ x ∈ xs.toList, (f x).run P w = .ok (g x) w) : (xs.mapM f).run P w = .ok (xs.map g) w := by
  rw [Array.mapM_eq_mapM_toList, Sem.run_map, run_mapM_list f g w xs.toList h]
  simp only [Result.andThen_ok]
  congr 1
  apply Array.ext'
  simp

theorem snd_build (ok : TabOK P T) {t : TypeId} {parts : Array (Nat × Operand)} (hop : o.op = .build t parts) (h : ((T.ti t).bind fun i =>
      match partsOk T e parts with
      | true => match i.kind with
        | .struct fs => (fillC (fun j => (fs[j]?).bind fun p => (T.ti p.2).map fun i => (p.1, i.size)) i.zeros (parts.toList.map fun p => (p.1, ev T e p.2))).bind fun cs => k (.agg cs) l σ
        | .array _ et => (T.ti et).bind fun ie => (fillC (fun j => some (j * ie.size, ie.size)) i.zeros (parts.toList.map fun p => (p.1, ev T e p.2))).bind fun cs => k (.agg cs) l σ
        | _ => none
      | false => none) = some r) : Snd P T o e l σ k r := by
  rw [Option.bind_eq_some_iff] at h
  obtain ⟨i, hi, h⟩ := h
  obtain ⟨inf, d, z, ti⟩ := ok.tis hi
  split at h
  · rename_i hc
    have hops : ∀ p ∈ parts.toList, p.2 ∈ o.op.operands.toList := fun p hp => by
      simp only [hop, Op.operands]
      exact List.mem_map.2 ⟨p, hp, rfl⟩
    split at h
    · rename_i fs hk
      obtain ⟨fs', rfl, ha, hf⟩ := ti.struct hk
      rw [Option.bind_eq_some_iff] at h
      obtain ⟨cs, hcs, h⟩ := h
      refine ⟨_, _, _, h, .pure fun ρ lm A w _ _ ho => ?_⟩
      obtain ⟨p1, p2⟩ := parts_rel (ρ := ρ) (lm := lm) (A := A) (fun p hp => ho _ (hops p hp)) hc
      have hsz : ∀ f ∈ fs'.toList, (do pure (f.offset, ← sizeOf f.type) : Sem (Nat × Nat)).run P w = .ok (f.offset, ((P.info? f.type).map (·.size)).getD 0) w := fun f hf' => by
        obtain ⟨j, hj⟩ := List.mem_iff_getElem?.1 hf'
        have hlen := fieldsOk_len hf
        have hj' : j < fs.length := by have := (List.getElem?_eq_some_iff.1 hj).1; omega
        obtain ⟨f2, fi, g1, _, _, g4, _⟩ := fieldsOk_get hf j fs[j] (by simp [hj'])
        rw [hj] at g1
        injection g1 with g1
        subst g1
        simp [sizeOf, typeInfo, g4]
      obtain ⟨us', q1, q2⟩ := fillC_rel (ρ := ρ) (lm := noL) (place' := fun j => (fs'.map fun f => (f.offset, ((P.info? f.type).map (·.size)).getD 0))[j]?) (us := z.cells) (fun j p hp => by
        obtain ⟨q, hq, hp⟩ := Option.bind_eq_some_iff.1 hp
        obtain ⟨fi', hfi, rfl⟩ := Option.map_eq_some_iff.1 hp
        obtain ⟨f2, fi, g1, g2, g3, g4, _⟩ := fieldsOk_get hf j q hq
        obtain ⟨inf', d', z', ti'⟩ := ok.tis hfi
        have g1' : fs'[j]? = some f2 := by simpa using g1
        have : fi = inf' := by have := ti'.info; rw [← g3, g4] at this; injection this
        subst this
        simp [g1', g2, g4, ti'.size]) p1 p2 (ti.rel ρ noL) hcs
      refine ⟨.agg us', ?_, ?_⟩
      · simp only [execOp, hop, Instr.build, Sem.run_bind, ti.run_zeroValue, Result.andThen_ok, ti.run_underlying]
        rw [run_mapM_array _ _ w fs' hsz]
        simp only [Result.andThen_ok, q1, Sem.run_pure]
      · simp only [VRel]
        exact ⟨us'.toList, rfl, q2.any lm⟩
    · rename_i n et hk
      obtain ⟨rfl, ha⟩ := ti.arr hk
      rw [Option.bind_eq_some_iff] at h
      obtain ⟨ie, hie, h⟩ := h
      obtain ⟨inf', d', z', ti'⟩ := ok.tis hie
      rw [Option.bind_eq_some_iff] at h
      obtain ⟨cs, hcs, h⟩ := h
      refine ⟨_, _, _, h, .pure fun ρ lm A w _ _ ho => ?_⟩
      obtain ⟨p1, p2⟩ := parts_rel (ρ := ρ) (lm := lm) (A := A) (fun p hp => ho _ (hops p hp)) hc
      obtain ⟨us', q1, q2⟩ := fillC_rel (ρ := ρ) (lm := noL) (place' := fun j => some (j * ie.size, ie.size)) (us := z.cells) (fun j p hp => hp) p1 p2 (ti.rel ρ noL) hcs
      refine ⟨.agg us', ?_, ?_⟩
      · simp only [execOp, hop, Instr.build, Sem.run_bind, ti.run_zeroValue, Result.andThen_ok, ti.run_underlying, ti'.run_sizeOf, q1, Sem.run_pure]
      · simp only [VRel]
        exact ⟨us'.toList, rfl, q2.any lm⟩
    · cases h
  · cases h

theorem snd_buildSlice (ok : TabOK P T) {f : FuncId} {t : TypeId} {len : Nat} {parts : Array (Nat × Operand)} (hop : o.op = .buildSlice t len parts) (h : ((T.ti t).bind fun i =>
      match partsOk T e parts with
      | true => match i.kind with
        | .slice et => (T.ti et).bind fun ie =>
            (fillC (fun j => some (j * ie.size, ie.size)) ((List.replicate len ie.zeros).flatten) (parts.toList.map fun p => (p.1, ev T e p.2))).bind fun cs =>
              match decide (len * ie.size ≤ 16777216) && decide (len ≤ 16777216) with
              | true => match o.dst with
                | some d => match T.loc f d with
                  | true => match l[d]? with
                    | some .none => k (.lslice d len ie.size) (l.set d (.cells cs)) σ
                    | _ => none
                  | false => k (.slice (some σ.length) 0 len ie.size) l (σ ++ [.row cs .rw])
                | none => none
              | false => none
        | _ => none
      | false => none) = some r) : Snd P T o e l σ k r := by
  rw [Option.bind_eq_some_iff] at h
  obtain ⟨i, hi, h⟩ := h
  obtain ⟨inf, d, z, ti⟩ := ok.tis hi
  split at h
  · rename_i hc
    have hops : ∀ p ∈ parts.toList, p.2 ∈ o.op.operands.toList := fun p hp => by
      simp only [hop, Op.operands]
      exact List.mem_map.2 ⟨p, hp, rfl⟩
    split at h
    · rename_i et hk
      obtain ⟨rfl, _, _⟩ := ti.slice hk
      rw [Option.bind_eq_some_iff] at h
      obtain ⟨ie, hie, h⟩ := h
      obtain ⟨inf', d', z', ti'⟩ := ok.tis hie
      rw [Option.bind_eq_some_iff] at h
      obtain ⟨cs, hcs, h⟩ := h
      split at h
      · rename_i hlen
        simp only [Bool.and_eq_true, decide_eq_true_eq] at hlen
        obtain ⟨hlen, hlen2⟩ := hlen
        have hcl := fillC_len hcs
        have hzl : ie.zeros.length = ie.size := by simp [TI.zeros, TI.size]
        have run : ∀ {ρ : Mp} {lm : Lp} {A : Act} {w : World}, (∀ y ∈ o.op.operands.toList, VRel ρ lm (ev T e y) (A.eval y)) →
            ∃ us', (execOp A.eval o).run P w = .ok (.value (.slice (some ⟨w.heap.size, 0, none⟩) len len)) (w.alloc (.cells us' et)) ∧ VRels ρ noL cs us'.toList := by
          intro ρ lm A w ho
          obtain ⟨p1, p2⟩ := parts_rel (ρ := ρ) (lm := lm) (A := A) (fun p hp => ho _ (hops p hp)) hc
          by_cases e0 : len * ie.size = 0
          · have r2 : VRels ρ noL ((List.replicate len ie.zeros).flatten) ((Array.range (len * ie.size)).map (fun j => (#[] : Array Value)[j % (#[] : Array Value).size]!)).toList := by
              have : (List.replicate len ie.zeros).flatten = [] := by
                apply List.eq_nil_of_length_eq_zero
                rw [flat_len, hzl, e0]
              rw [this, e0]
              simp [VRels]
            obtain ⟨us', q1, q2⟩ := fillC_rel (ρ := ρ) (lm := noL) (place' := fun j => some (j * ie.size, ie.size)) (fun j p hp => hp) p1 p2 r2 hcs
            refine ⟨us', ?_, q2⟩
            simp only [execOp, hop, Instr.buildSlice, Sem.run_bind, ti.run_underlying, Result.andThen_ok, ti'.run_sizeOf]
            rw [if_neg (by omega), if_pos e0]
            simp only [Sem.run_bind, Sem.run_pure, Result.andThen_ok]
            rw [q1]
            simp only [Sem.run_bind, newRow, run_newObj, Result.andThen_ok, Sem.run_pure]
            rfl
          · have r2 := zeros_rel (ti'.rel ρ noL) len (len * ie.size) (by rw [hzl])
            obtain ⟨us', q1, q2⟩ := fillC_rel (ρ := ρ) (lm := noL) (place' := fun j => some (j * ie.size, ie.size)) (fun j p hp => hp) p1 p2 r2 hcs
            refine ⟨us', ?_, q2⟩
            simp only [execOp, hop, Instr.buildSlice, Sem.run_bind, ti.run_underlying, Result.andThen_ok, ti'.run_sizeOf]
            rw [if_neg (by omega), if_neg e0]
            simp only [Sem.run_bind, Sem.run_pure, Result.andThen_ok, ti'.run_zeroValue]
            rw [q1]
            simp only [Sem.run_bind, newRow, run_newObj, Result.andThen_ok, Sem.run_pure]
            rfl
        have hca : cellAll cs = true := fillC_cells (fun p hp => by
          obtain ⟨q, hq, rfl⟩ := List.mem_map.1 hp
          simpa using List.all_eq_true.1 hc q hq) (cellAll_flat (cellAll_zeros ie) len) hcs
        split at h
        · rename_i dd hd
          split at h
          · split at h
            · rename_i hl
              refine ⟨_, _, _, h, .of_run fun ρ lm a w hH hL ho => ?_⟩
              obtain ⟨us', r1, r2⟩ := run (w := w) ho
              obtain ⟨h1, h2, h3, h4⟩ := new_own hH hL dd hl cs us' et r2 (oneCells r2 hca)
              refine ⟨_, _, _, _, _, r1, .inl rfl, h1, h2, ?_, h3, by rw [hd]; exact h4⟩
              simp only [VRel]
              exact ⟨w.heap.size, upd_same _ _ _, rfl⟩
            · cases h
          · refine ⟨_, _, _, h, .of_run fun ρ lm a w hH hL ho => ?_⟩
            obtain ⟨us', r1, r2⟩ := run (w := w) ho
            have hlr := r2.length
            have hls : us'.size = cs.length := by rw [← hlr]; simp
            obtain ⟨h1, h2, h3⟩ := new_row hH hL cs us' et (by rw [List.take_of_length_le (by rw [hlr]; exact Nat.le_refl _)]; exact r2) (by omega) (oneCells r2 hca)
            refine ⟨_, _, _, _, _, r1, .inl rfl, h1, h2, ?_, h3, LExt.refl ..⟩
            simp only [VRel]
            refine ⟨_, _, len, upd_same _ _ _, rfl, Nat.le_refl _, by omega, .inr ⟨rfl, ?_⟩⟩
            rw [flat_len, hzl] at hcl
            show 0 + 0 + len * ie.size ≤ us'.size
            omega
        · cases h
      · cases h
    · cases h
  · cases h

end
end Go.Abs
namespace Go.Abs
open Go

/-- A BLOCK THAT MAY BE WRITTEN is no more; another one lies in its place. -/
theorem regrow {ρ : Mp} {lm : Lp} {l : Locs} {σ : Heap} {w w' : World} (hH : HRel ρ σ w) (hL : LRel ρ lm l σ w) (b : Nat) (pl pl' : Pl) (x x' : Blk)
    (hb : ρ b = some pl) (hx : σ[b]? = some x) (hrw : x.isRW = true) (hp : pl'.blk = pl.blk) (hx' : BRel ρ pl' w' x') (hm : x'.isRW = true)
    (ho : w'.os = w.os) (ht : w'.tape = w.tape) (hu : w'.output = w.output) (hsz : w'.heap.size = w.heap.size) (hold : ∀ k, k ≠ pl.blk → w'.heap[k]? = w.heap[k]?) (hnt : x'.isTys = false := by rfl) :
    HRel (upd ρ σ.length pl') (σ.set b (.row [] .dead) ++ [x']) w' ∧ LRel (upd ρ σ.length pl') lm l (σ.set b (.row [] .dead) ++ [x']) w' ∧
      Step ρ lm l σ w (upd ρ σ.length pl') lm l (σ.set b (.row [] .dead) ++ [x']) w' := by
  have hlt := (List.getElem?_eq_some_iff.1 hx).1
  have hlive := Blk.live_of_isRW hrw
  have hn := hH.none_of_len (Nat.le_refl _)
  have hext := upd_ext pl' hn
  have hget : ∀ c, (σ.set b (.row [] .dead) ++ [x'])[c]? = if c = σ.length then some x' else if c = b then some (.row [] .dead) else σ[c]? := fun c => by
    rw [getElem?_snoc, List.length_set]
    by_cases e : c = σ.length
    · rw [if_pos e, if_pos e]
    · rw [if_neg e, if_neg e]
      by_cases e' : c = b
      · subst e'; simp [hlt]
      · rw [List.getElem?_set_ne (Ne.symm e'), if_neg e']
  have hro : x'.isRO = false := by
    cases x' with
    | row cs m => cases m <;> simp_all [Blk.isRW, Blk.isRO]
    | map es m => cases m <;> simp_all [Blk.isRW, Blk.isRO]
    | tys b t sz => simp_all [Blk.isRW, Blk.isRO]
  -- any other live block lies elsewhere
  have other : ∀ c pc y, c ≠ σ.length → c ≠ b → ρ c = some pc → σ[c]? = some y → y.live = true → pc.blk ≠ pl.blk := fun c pc y _ h2 h3 h4 h5 he =>
    hH.dis b c pl pc x y hb h3 hx h4 (Ne.symm h2) hlive h5 hrw he.symm
  refine ⟨⟨fun c pc hc => ?_, fun c c' pc pc' y y' hc hc' hy hy' hne hl hl' hr => ?_, ((hH.tys.mono hext).set rfl b).snoc hnt⟩, ⟨fun t k hk => ?_, hL.inj, fun t k c pc y hk hc hy hl => ?_⟩, ?_⟩
  · rw [hget]
    by_cases e : c = σ.length
    · subst e
      rw [upd_same] at hc
      injection hc with hc
      subst hc
      exact ⟨x', by rw [if_pos rfl], hx'.mono hext (fun _ => rfl)⟩
    · rw [upd_ne _ _ e] at hc
      rw [if_neg e]
      by_cases e' : c = b
      · exact ⟨.row [] .dead, by rw [if_pos e'], trivial⟩
      · rw [if_neg e']
        obtain ⟨y, hy, hB⟩ := hH.blk c pc hc
        exact ⟨y, hy, hB.mono hext (fun hl => hold _ (other c pc y e e' hc hy hl))⟩
  · rw [hget] at hy hy'
    by_cases e : c = σ.length
    · subst e
      rw [upd_same] at hc
      injection hc with hc
      subst hc
      rw [upd_ne _ _ (Ne.symm hne)] at hc'
      rw [if_neg (Ne.symm hne)] at hy'
      by_cases e' : c' = b
      · rw [if_pos e'] at hy'; injection hy' with hy'; subst hy'; simp [Blk.live] at hl'
      · rw [if_neg e'] at hy'
        rw [hp]
        exact fun he => other c' pc' y' (Ne.symm hne) e' hc' hy' hl' he.symm
    · rw [upd_ne _ _ e] at hc
      rw [if_neg e] at hy
      by_cases eb : c = b
      · rw [if_pos eb] at hy; injection hy with hy; subst hy; simp [Blk.live] at hl
      · rw [if_neg eb] at hy
        by_cases e' : c' = σ.length
        · subst e'
          rw [upd_same] at hc'
          injection hc' with hc'
          subst hc'
          rw [hp]
          exact other c pc y e eb hc hy hl
        · rw [upd_ne _ _ e'] at hc'
          rw [if_neg e'] at hy'
          by_cases eb' : c' = b
          · rw [if_pos eb'] at hy'; injection hy' with hy'; subst hy'; simp [Blk.live] at hl'
          · rw [if_neg eb'] at hy'
            exact hH.dis c c' pc pc' y y' hc hc' hy hy' hne hl hl' hr
  · obtain ⟨h1, h2⟩ := hL.loc t k hk
    exact ⟨by omega, h2.mono hext (hold k fun he => hL.apart t k b pl x hk hb hx hlive he.symm)⟩
  · rw [hget] at hy
    by_cases e : c = σ.length
    · subst e
      rw [upd_same] at hc
      injection hc with hc
      subst hc
      rw [hp]
      exact hL.apart t k b pl x hk hb hx hlive
    · rw [upd_ne _ _ e] at hc
      rw [if_neg e] at hy
      by_cases eb : c = b
      · rw [if_pos eb] at hy; injection hy with hy; subst hy; simp [Blk.live] at hl
      · rw [if_neg eb] at hy
        exact hL.apart t k c pc y hk hc hy hl
  · refine ⟨ho, ht, hu, by omega, by simp, hext, fun c h0 h1 => ?_, fun k _ h1 _ => hold k (Ne.symm (h1 b pl x hb hx hrw)), fun c pc y hc hy hr => ?_, fun c y hc hr => ?_, fun c y hc hr => ?_, fun t k hk h2 => .inr ⟨t, hk, h2⟩⟩
    · by_cases e : c = σ.length
      · omega
      · rw [upd_ne _ _ e] at h1; exact absurd h0 h1
    · rw [hget] at hy
      by_cases e : c = σ.length
      · subst e
        rw [upd_same] at hc
        injection hc with hc
        subst hc
        exact .inr ⟨b, pl, x, hb, hx, hrw, hp.symm⟩
      · rw [upd_ne _ _ e] at hc
        rw [if_neg e] at hy
        by_cases eb : c = b
        · rw [if_pos eb] at hy; injection hy with hy; subst hy; simp [Blk.isRW] at hr
        · rw [if_neg eb] at hy
          exact .inr ⟨c, pc, y, hc, hy, hr, rfl⟩
    · have hcl := (List.getElem?_eq_some_iff.1 hc).1
      rw [hget, if_neg (by omega)]
      by_cases eb : c = b
      · subst eb
        rw [hx] at hc
        injection hc with hc
        subst hc
        cases x with
        | row cs m => cases m <;> simp_all [Blk.isRW, Blk.isRO]
        | map es m => cases m <;> simp_all [Blk.isRW, Blk.isRO]
        | tys b t sz => simp_all [Blk.isRW, Blk.isRO]
      · rw [if_neg eb]; exact hc
    · rw [hget] at hc
      by_cases e : c = σ.length
      · rw [if_pos e] at hc; injection hc with hc; subst hc; rw [hro] at hr; cases hr
      · rw [if_neg e] at hc
        by_cases eb : c = b
        · rw [if_pos eb] at hc; injection hc with hc; subst hc; simp [Blk.isRO] at hr
        · rwa [if_neg eb] at hc

/-- A block is no more. -/
theorem kill_block {ρ : Mp} {lm : Lp} {l : Locs} {σ : Heap} {w : World} (hH : HRel ρ σ w) (hL : LRel ρ lm l σ w) (b : Nat) (pl : Pl) (x : Blk)
    (hb : ρ b = some pl) (hx : σ[b]? = some x) (hrw : x.isRW = true) :
    HRel ρ (σ.set b (.row [] .dead)) w ∧ LRel ρ lm l (σ.set b (.row [] .dead)) w ∧ Step ρ lm l σ w ρ lm l (σ.set b (.row [] .dead)) w :=
  turn_block hH hL b pl x (.row [] .dead) hb hx hrw trivial (.inr rfl) rfl rfl rfl rfl (fun _ _ => rfl)

section
variable {P : Program} {T : Tab} {R : Type} {o : Oper} {e : Env} {l : Locs} {σ : Heap} {k : AVal → Locs → Heap → Option R} {r : R}

/-- The cells of a slice, on both sides. -/
theorem read_rel {ρ : Mp} {lm : Lp} {w : World} (hH : HRel ρ σ w) {b : Option Nat} {o' n z : Nat} {cs : List AVal} (h : σ.read b o' n z = some cs) {v : Value} (hv : VRel ρ lm (.slice b o' n z) v) :
    ∃ us : List Value, VRels ρ noL cs us ∧ us.length = (if b = none then 0 else n * z) ∧ (∀ u ∈ us, u.oneCell' = true) ∧ ∀ (m : Nat), m * z ≤ us.length → ∀ w' : World, w'.heap = w.heap → (Builtin.firstCells z m v).run P w' = .ok (us.take (m * z)).toArray w' := by
  unfold Heap.read at h
  cases b with
  | none =>
    simp only [Option.some.injEq] at h
    subst h
    refine ⟨[], by simp [VRels], by simp, by simp, fun m hm w' _ => ?_⟩
    obtain ⟨_, _, rfl⟩ := by simpa only [VRel] using hv
    simp [Builtin.firstCells]
  | some b =>
    obtain ⟨cs', h1, h2⟩ := Option.bind_eq_some_iff.1 h
    split at h2
    · rename_i hl
      injection h2 with h2
      subst h2
      obtain ⟨pl, a, cap, hp, rfl, h4, h5, h6⟩ := by simpa only [VRel] using hv
      obtain ⟨c, ty, fr, g1, g2, g3, g4, g6⟩ := row_rel hH hp h1
      obtain ⟨us, hul, hus⟩ := exists_list (fun m u => w.cell? ⟨pl.blk, pl.off + o' + m, none⟩ = some u ∧ ∀ y, ((cs'.drop o').take (n * z))[m]? = some y → VRel ρ noL y u) (n * z) fun m hm => by
        have hml : o' + m < cs'.length := by omega
        obtain ⟨u, e1, r1⟩ := g4 (o' + m) cs'[o' + m] (by simp [hml])
        refine ⟨u, by rw [Nat.add_assoc]; simp [World.cell?, g1, e1], fun y hy => ?_⟩
        rw [List.getElem?_take, if_pos hm, List.getElem?_drop, List.getElem?_eq_getElem hml] at hy
        injection hy with hy
        subst hy
        exact r1
      have hlen : ((cs'.drop o').take (n * z)).length = n * z := by rw [List.length_take, List.length_drop]; omega
      refine ⟨us, VRels.of_get (by omega) fun j x hx => ?_, by simp [hul], fun u hu => ?_, fun m hm w' hw' => ?_⟩
      · have hj := (List.getElem?_eq_some_iff.1 hx).1
        have hj' : j < us.length := by omega
        exact ⟨us[j], by simp [hj'], (hus j us[j] (by simp [hj'])).2 x hx⟩
      · obtain ⟨j, hj⟩ := List.mem_iff_getElem?.1 hu
        have := (hus j u hj).1
        simp only [World.cell?, g1] at this
        have hjl : j < us.length := (List.getElem?_eq_some_iff.1 hj).1
        exact g6 (o' + j) (by omega) u (by simpa [Nat.add_assoc] using this)
      · simp only [Builtin.firstCells]
        have hn : (us.take (m * z)).length = m * z := by rw [List.length_take]; omega
        rw [← hn]
        rw [hn]
        rcases h6 with h6 | ⟨rfl, _⟩
        · have h0 : n = 0 := by omega
          subst h0
          have : m * z = 0 := by omega
          rw [this]
          simp [loadCells, loadCellsFrom]
        · have := run_loadCells_list (P := P) w' ⟨pl.blk, pl.off + o', none⟩ (us.take (m * z)) (fun j v hj => by
            rw [add_none]
            rw [List.getElem?_take] at hj
            split at hj
            · have h7 := (hus j v hj).1
              simp only [World.cell?] at h7 ⊢
              rw [hw']
              exact h7
            · cases hj)
          rw [hn] at this
          exact this
    · cases h2

/-- What is appended: its cells, on both sides. -/
structure Src (ρ : Mp) (w : World) (P : Program) (v : Value) (k z : Nat) (xs : List AVal) (us : List Value) : Prop where
  rel : VRels ρ noL xs us
  len : us.length = k * z
  lenOf : (Builtin.lenOf v).run P w = .ok k w
  first : (Builtin.firstCells z k v).run P w = .ok us.toArray w

theorem append_some {b b' : Option Nat} {o' n z bytes k o2 n2 : Nat} {xs : List AVal} {σ' : Heap} (h : σ.append b o' n z bytes xs k = some ((b', o2, n2), σ')) :
    (k = 0 ∧ b = b' ∧ o' = o2 ∧ n = n2 ∧ σ = σ') ∨
    (0 < k ∧ (n + k) * bytes ≤ 70368744177664 ∧ n + k ≤ 70368744177664 ∧ xs.length = k * z ∧ b' = some σ.length ∧ o2 = 0 ∧
      ((b = none ∧ k = n2 ∧ σ' = σ ++ [.row xs .rw]) ∨
       ∃ b0 cs, b = some b0 ∧ σ[b0]? = some (.row cs .rw) ∧ o' + n * z ≤ cs.length ∧ n2 = n + k ∧ σ' = σ.set b0 (.row [] .dead) ++ [.row ((cs.drop o').take (n * z) ++ xs) .rw])) := by
  unfold Heap.append at h
  split at h
  · rename_i h0
    simp only [Option.some.injEq, Prod.mk.injEq] at h
    obtain ⟨⟨h1, h2, h3⟩, h4⟩ := h
    exact .inl ⟨h0, h1, h2, h3, h4⟩
  · rename_i h0
    split at h
    · rename_i hc
      split at h
      · simp only [Option.some.injEq, Prod.mk.injEq] at h
        obtain ⟨⟨h1, h2, h3⟩, h4⟩ := h
        exact .inr ⟨by omega, hc.1, hc.2.1, hc.2.2, h1.symm, h2.symm, .inl ⟨rfl, h3, h4.symm⟩⟩
      · rename_i b0
        split at h
        · rename_i cs hb
          split at h
          · rename_i hl
            simp only [Option.some.injEq, Prod.mk.injEq] at h
            obtain ⟨⟨h1, h2, h3⟩, h4⟩ := h
            exact .inr ⟨by omega, hc.1, hc.2.1, hc.2.2, h1.symm, h2.symm, .inr ⟨b0, cs, rfl, hb, hl, h3.symm, h4.symm⟩⟩
          · cases h
        · cases h
    · cases h

theorem drew_rel {ρ : Mp} {w : World} (h : HRel ρ σ w) : HRel ρ σ w.drew := ⟨fun b pl hb => let ⟨x, hx, hB⟩ := h.blk b pl hb; ⟨x, hx, hB.mono (fun _ _ h => h) (fun _ => rfl)⟩, h.dis, h.tys⟩
theorem drew_lrel {ρ : Mp} {lm : Lp} {w : World} (h : LRel ρ lm l σ w) : LRel ρ lm l σ w.drew := ⟨fun t k hk => let ⟨h1, h2⟩ := h.loc t k hk; ⟨h1, h2.mono (fun _ _ h => h) rfl⟩, h.inj, h.apart⟩
theorem drew_step (ρ : Mp) (lm : Lp) (l : Locs) (σ : Heap) (w : World) : Step ρ lm l σ w ρ lm l σ w.drew :=
  ⟨rfl, rfl, rfl, Nat.le_refl _, Nat.le_refl _, fun _ _ h => h, fun _ h h' => absurd h h', fun _ _ _ _ => rfl,
    fun b pl x h hx hr => .inr ⟨b, pl, x, h, hx, hr, rfl⟩, fun _ _ h _ => h, fun _ _ h _ => h, fun t _ h h2 => .inr ⟨t, h, h2⟩⟩

theorem choose_cap (w : World) (need old : Nat) (e : TypeId) (hn : need ≤ 70368744177664) :
    need ≤ (Question.appendCap need old e).cut (w.tape w.drawn (.appendCap need old e)) ∧ (Question.appendCap need old e).cut (w.tape w.drawn (.appendCap need old e)) ≤ 9223372036854775807 := by
  constructor
  · simp [Question.cut]
  · simp only [Question.cut]
    have : w.tape w.drawn (Question.appendCap need old e) % (2 ^ 63 - need) < 2 ^ 63 - need := Nat.mod_lt _ (by omega)
    omega

/-- Room behind the slice. -/
theorem run_append_room {t xt et rt : TypeId} {dx : TypeDesc} (ht : P.underlying t = some (.slice et)) (hxt : P.underlying xt = some dx) (hd : (∃ e', dx = .slice e') ∨ dx = .string) {z n k cap : Nat} {a0 : Option Addr} {x : Value} {us : List Value} {w w' : World}
    (hz : (sizeOf et).run P w = .ok z w) (hl : (Builtin.lenOf x).run P w = .ok k w) (hf : (Builtin.firstCells z k x).run P w = .ok us.toArray w) (hcap : n + k ≤ cap)
    (hs : (match a0 with | some a => storeCells (a.add (n * z)) us | none => pure () : Sem Unit).run P w = .ok () w') :
    (Builtin.append_ #[t, xt] rt #[.slice a0 n cap, x]).run P w = .ok (.slice a0 (n + k) cap) w' := by
  rcases hd with ⟨e', rfl⟩ | rfl
  · cases a0 <;> simp only [] at hs <;>
      simp [Builtin.append_, run_underlying ht, run_underlying hxt, hz, hl, hf, hcap] <;> simp_all
  · cases a0 <;> simp only [] at hs <;>
      simp [Builtin.append_, run_underlying ht, run_underlying hxt, hz, hl, hf, hcap] <;> simp_all

/-- No room: a new row. -/
theorem run_append_grow {t xt et rt : TypeId} {dx : TypeDesc} (ht : P.underlying t = some (.slice et)) (hxt : P.underlying xt = some dx) (hd : (∃ e', dx = .slice e') ∨ dx = .string) {ie : TI} {inf : TypeInfo} {d : TypeDesc} {zv : Value} (ti : TIs P T et ie inf d zv)
    {n k cap : Nat} {a0 : Option Addr} {x : Value} {us os : List Value} {w : World}
    (hl : (Builtin.lenOf x).run P w = .ok k w) (hf : ∀ w' : World, w'.heap = w.heap → (Builtin.firstCells ie.size k x).run P w' = .ok us.toArray w') (hcap : cap < n + k)
    (ho : ∀ w' : World, w'.heap = w.heap → (Builtin.firstCells ie.size n (.slice a0 n cap)).run P w' = .ok os.toArray w') (hb : (n + k) * ie.bytes ≤ 70368744177664) (hn : n + k ≤ 70368744177664) :
    ∃ nc, n + k ≤ nc ∧ nc ≤ 9223372036854775807 ∧ (Builtin.append_ #[t, xt] rt #[.slice a0 n cap, x]).run P w =
      .ok (.slice (some ⟨w.heap.size, 0, none⟩) (n + k) nc) (w.drew.alloc (.cells (os.toArray ++ (us.toArray ++ Builtin.zeroCells zv.cells (nc - (n + k)))) et)) := by
  obtain ⟨c1, c2⟩ := choose_cap w (n + k) cap et hn
  refine ⟨_, c1, c2, ?_⟩
  have e63 : IntKind.i64.max = 9223372036854775807 := by decide
  have hfit := growslice_fits hcap (bytes := ie.bytes) (by omega)
  have hbb : inf.bytes = ie.bytes := ti.bytes
  have hcap' : ¬ n + k ≤ cap := by omega
  have hbig : ¬ (9223372036854775807 : Int) < (n : Int) + (k : Int) := by omega
  have hfit' : ¬ 281474976710656 < Builtin.nextslicecap (n + k) cap * ie.bytes := by omega
  have f1 := hf w.drew rfl
  have o1 := ho w.drew rfl
  have zv1 := ti.run_zeroValue w.drew
  rcases hd with ⟨e', rfl⟩ | rfl
  · simp [Builtin.append_, run_underlying ht, run_underlying hxt, ti.run_sizeOf, hl, hcap', ti.run_typeInfo, hbb, hbig, hfit', Question.forced, o1, f1, zv1, newRow]
  · simp [Builtin.append_, run_underlying ht, run_underlying hxt, ti.run_sizeOf, hl, hcap', ti.run_typeInfo, hbb, hbig, hfit', Question.forced, o1, f1, zv1, newRow]

theorem ones3 {os us : List Value} {z : Array Value} {n : Nat} (ho : ∀ u ∈ os, u.oneCell' = true) (hu : ∀ u ∈ us, u.oneCell' = true) (hz : Ones z) : Ones (os.toArray ++ (us.toArray ++ Builtin.zeroCells z n)) := by
  intro v hv
  simp only [Array.toList_append, List.mem_append] at hv
  rcases hv with hv | hv | hv
  · exact ho v hv
  · exact hu v hv
  · simp only [Builtin.zeroCells, Array.toList_map, List.mem_map] at hv
    obtain ⟨j, hj, rfl⟩ := hv
    have hj' : j < n * z.size := by simpa using hj
    have hlt : j % z.size < z.size := Nat.mod_lt _ (Nat.pos_of_ne_zero fun e => by rw [e] at hj'; simp at hj')
    rw [getElem!_pos z _ hlt]
    exact hz _ (by simp)

theorem append_run (ok : TabOK P T) {t xt et : TypeId} {i xi ie : TI} (ht : T.ti t = some i) (hk : i.kind = .slice et) (hie : T.ti et = some ie) (hxi : T.ti xt = some xi) (hx : (∃ e', xi.kind = .slice e') ∨ (xi.shape = [.str] ∧ xi.agg = false))
    {ρ : Mp} {lm : Lp} {w : World} (hH : HRel ρ σ w) (hL : LRel ρ lm l σ w) {b b' : Option Nat} {o' n k o2 n2 z : Nat} {xs : List AVal} {us : List Value} {σ' : Heap} {s x : Value} (hs : VRel ρ lm (.slice b o' n z) s) (hz : z = ie.size ∨ b = none)
    (rel : VRels ρ noL xs us) (ul : us.length = k * ie.size) (hl : (Builtin.lenOf x).run P w = .ok k w) (hf : ∀ w' : World, w'.heap = w.heap → (Builtin.firstCells ie.size k x).run P w' = .ok us.toArray w')
    (h1 : ∀ u ∈ us, u.oneCell' = true) (h : σ.append b o' n ie.size ie.bytes xs k = some ((b', o2, n2), σ')) (rt : TypeId) :
    ∃ cv w' ρ', (Builtin.append_ #[t, xt] rt #[s, x]).run P w = .ok cv w' ∧ HRel ρ' σ' w' ∧ LRel ρ' lm l σ' w' ∧ VRel ρ' lm (.slice b' o2 n2 ie.size) cv ∧ Step ρ lm l σ w ρ' lm l σ' w' ∧
      ∀ nb, b' = some nb → (∀ b0, b = some b0 → o' = 0 ∧ ∃ pl, ρ b0 = some pl ∧ pl.ty = et ∧ pl.off = 0) → ∃ pl, ρ' nb = some pl ∧ pl.ty = et ∧ pl.off = 0 := by
  obtain ⟨inf, d, zz, ti⟩ := ok.tis ht
  obtain ⟨rfl, _, _⟩ := ti.slice hk
  obtain ⟨inf', d', z', ti'⟩ := ok.tis hie
  obtain ⟨infx, dx, zx, tix⟩ := ok.tis hxi
  have hd : (∃ e', dx = .slice e') ∨ dx = .string := by
    rcases hx with ⟨e', he⟩ | ⟨he, ha⟩
    · exact .inl ⟨e', (tix.slice he).1⟩
    · exact .inr (tix.str he ha)
  have hzl : ie.zeros.length = ie.size := by simp [TI.zeros, TI.size]
  have hzs : z'.cells.size = ie.size := by have := (ti'.rel ρ noL).length; simp at this; omega
  rcases append_some h with ⟨rfl, e1, e2, e3, e4⟩ | ⟨hk0, hb1, hb2, hxl, rfl, rfl, hcase⟩
  · -- nothing is appended
    subst e1; subst e2; subst e3; subst e4
    have hu0 : us = [] := List.eq_nil_of_length_eq_zero (by rw [ul]; simp)
    subst hu0
    obtain ⟨a0, cap0, rfl, hcap⟩ : ∃ a cap, s = .slice a n cap ∧ n ≤ cap := by
      cases b with
      | none => simp only [VRel] at hs; obtain ⟨_, rfl, rfl⟩ := hs; exact ⟨none, 0, rfl, Nat.le_refl _⟩
      | some b => simp only [VRel] at hs; obtain ⟨pl, a, cap, _, rfl, h4, _⟩ := hs; exact ⟨_, _, rfl, h4⟩
    have := run_append_room (P := P) (rt := rt) (n := n) (cap := cap0) (a0 := a0) (w' := w) ti.und tix.und hd (ti'.run_sizeOf w) hl (hf w rfl) (by omega) (by cases a0 <;> simp [storeCells])
    refine ⟨_, w, ρ, this, hH, hL, ?_, Step.refl .., fun nb hnb h => (h nb hnb).2⟩
    rw [Nat.add_zero]
    rcases hz with rfl | rfl
    · exact hs
    · simpa only [VRel] using hs
  · rcases hcase with ⟨rfl, e1, rfl⟩ | ⟨b0, cs, rfl, hcell, hle, rfl, rfl⟩
    · -- onto nil
      subst e1
      simp only [VRel] at hs
      obtain ⟨rfl, rfl, rfl⟩ := hs
      obtain ⟨nc, c1, c2, run⟩ := run_append_grow (P := P) (rt := rt) (n := 0) (cap := 0) (a0 := none) (os := []) (w := w) ti.und tix.und hd ti' hl hf (by omega) (fun w' _ => by simp [Builtin.firstCells]) hb1 hb2
      have hl' := rel.length
      have hsize : (#[] ++ (us.toArray ++ Builtin.zeroCells z'.cells (nc - (0 + k)))).size = nc * ie.size := by
        simp [Builtin.zeroCells, ul, hzs]
        rw [← Nat.add_mul]; congr 1; omega
      obtain ⟨q1, q2, q3⟩ := new_row (drew_rel hH) (drew_lrel hL) xs ([].toArray ++ (us.toArray ++ Builtin.zeroCells z'.cells (nc - (0 + k)))) et (by
        simp only [Array.empty_append, Array.toList_append]
        rw [← hl', List.take_left]
        exact rel) (by rw [hsize]; rw [hxl]; exact Nat.mul_le_mul_right _ (by omega)) (ones3 (by simp) h1 ti'.ones)
      refine ⟨_, _, _, run, q1, q2, ?_, (drew_step ρ lm l σ w).trans q3, fun nb hnb _ => by injection hnb with hnb; subst hnb; exact ⟨_, upd_same _ _ _, rfl, rfl⟩⟩
      simp only [VRel]
      refine ⟨_, _, nc, upd_same _ _ _, by rw [Nat.zero_add]; rfl, by omega, c2, .inr ⟨rfl, ?_⟩⟩
      rw [hsize]
      show 0 + 0 + nc * ie.size ≤ nc * ie.size
      omega
    · simp only [VRel] at hs
      obtain ⟨pl, a, cap, hp, rfl, h4, h5, h6⟩ := hs
      obtain rfl : z = ie.size := hz.resolve_right (by simp)
      obtain ⟨x0, hx0, hB⟩ := hH.blk b0 pl hp
      rw [hcell] at hx0
      injection hx0 with hx0
      subst hx0
      obtain ⟨c, ty, fr, g1, g2, g3, g4, g5, g6, g7⟩ := hB
      have g5 := g5 rfl
      have hl' := rel.length
      by_cases hroom : n + k ≤ cap
      · -- in place
        rcases h6 with h6 | ⟨rfl, h6⟩
        · omega
        have hmul : (n + k) * ie.size ≤ cap * ie.size := Nat.mul_le_mul_right _ hroom
        rw [Nat.add_mul] at hmul
        obtain ⟨c', hw⟩ := setCells_wrote us w pl.blk (pl.off + o' + n * ie.size) c ty fr g1 (by rw [ul]; omega)
        have hst := run_store_block (P := P) w pl.blk (pl.off + o' + n * ie.size) us c ty fr g1 (by rw [ul]; omega) g5 h1
        have run := run_append_room (P := P) (rt := rt) (n := n) (cap := cap) (a0 := some ⟨pl.blk, pl.off + o', none⟩) ti.und tix.und hd (ti'.run_sizeOf w) hl (hf w rfl) hroom (by simp only [add_none]; exact hst)
        obtain ⟨q1, q2, q3⟩ := regrow hH hL b0 pl ⟨pl.blk, pl.off + o', pl.size, pl.ty⟩ _ (.row ((cs.drop o').take (n * ie.size) ++ xs) .rw) hp hcell rfl rfl (by
          refine ⟨c', ty, fr, hw.heap, hw.size.trans g2, ?_, fun j y hy => ?_, fun _ => by rw [hw.size]; exact g5, hw.onesAt g6 h1 fun j hj => by
            simp only [List.length_append, List.length_take, List.length_drop] at hj
            simp only
            rw [hxl] at hj
            omega, g7⟩
          · simp only [List.length_append, List.length_take, List.length_drop, hw.size]
            rw [hxl]; omega
          · rw [hw.at_]
            rcases Nat.lt_or_ge j (n * ie.size) with hj | hj
            · rw [List.getElem?_append_left (by rw [List.length_take, List.length_drop]; omega), List.getElem?_take, if_pos hj, List.getElem?_drop] at hy
              rw [if_neg (by simp only; omega)]
              have := g4 _ y hy
              simpa [Nat.add_assoc] using this
            · have hlen : ((cs.drop o').take (n * ie.size)).length = n * ie.size := by rw [List.length_take, List.length_drop]; omega
              rw [List.getElem?_append_right (by rw [hlen]; exact hj), hlen] at hy
              have hjl := (List.getElem?_eq_some_iff.1 hy).1
              rw [if_pos (by simp only; omega)]
              obtain ⟨v, e1, r1⟩ := rel.get _ y hy
              refine ⟨v, ?_, r1⟩
              show us[pl.off + o' + j - (pl.off + o' + n * ie.size)]? = some v
              rw [show pl.off + o' + j - (pl.off + o' + n * ie.size) = j - n * ie.size by omega]
              exact e1) rfl hw.os hw.tape hw.output hw.hsize hw.old
        refine ⟨_, _, _, run, q1, q2, ?_, q3, fun nb hnb h => by
          injection hnb with hnb; subst hnb
          obtain ⟨h0, p, hp', ht, hoff⟩ := h b0 rfl
          rw [hp] at hp'
          injection hp' with hp'
          subst hp'
          exact ⟨_, upd_same _ _ _, ht, by show pl.off + o' = 0; omega⟩⟩
        simp only [VRel]
        exact ⟨_, _, cap, upd_same _ _ _, rfl, hroom, h5, .inr ⟨by simp, by simp only [Nat.add_zero]; exact h6⟩⟩
      · -- a new row
        have hrow : σ.row? b0 = some cs := by simp [Heap.row?, hcell]
        have hread : σ.read (some b0) o' n ie.size = some ((cs.drop o').take (n * ie.size)) := by simp [Heap.read, hrow, hle]
        obtain ⟨os, o1, o2, oo, o3⟩ := read_rel (P := P) (lm := lm) hH hread (v := .slice (some a) n cap) (by simp only [VRel]; exact ⟨pl, a, cap, hp, rfl, h4, h5, h6⟩)
        rw [if_neg (by simp)] at o2
        obtain ⟨nc, c1, c2, run⟩ := run_append_grow (P := P) (rt := rt) (n := n) (cap := cap) (a0 := some a) (os := os) (w := w) ti.und tix.und hd ti' hl hf (by omega) (fun w' hw' => by
          have q1 := o3 n (by omega) w' hw'
          rw [List.take_of_length_le (by omega)] at q1
          exact q1) hb1 hb2
        have hsize : (os.toArray ++ (us.toArray ++ Builtin.zeroCells z'.cells (nc - (n + k)))).size = nc * ie.size := by
          simp [Builtin.zeroCells, ul, hzs, o2]
          rw [← Nat.add_mul, ← Nat.add_mul]; congr 1; omega
        obtain ⟨r1, r2, r3⟩ := kill_block (drew_rel hH) (drew_lrel hL) b0 pl _ hp hcell rfl
        have hl0 := o1.length
        obtain ⟨q1, q2, q3⟩ := new_row r1 r2 ((cs.drop o').take (n * ie.size) ++ xs) (os.toArray ++ (us.toArray ++ Builtin.zeroCells z'.cells (nc - (n + k)))) et (by
          have : ((cs.drop o').take (n * ie.size) ++ xs).length = (os ++ us).length := by simp only [List.length_append]; omega
          rw [this]
          simp only [Array.toList_append]
          rw [← List.append_assoc, List.take_left]
          exact o1.append rel) (by
          rw [hsize]
          have : ((cs.drop o').take (n * ie.size) ++ xs).length = (n + k) * ie.size := by simp only [List.length_append]; rw [Nat.add_mul]; omega
          rw [this]
          exact Nat.mul_le_mul_right _ c1) (ones3 oo h1 ti'.ones)
        rw [List.length_set] at q1 q2 q3
        refine ⟨_, _, _, run, q1, q2, ?_, ((drew_step ρ lm l σ w).trans r3).trans q3, fun nb hnb _ => by injection hnb with hnb; subst hnb; exact ⟨_, upd_same _ _ _, rfl, rfl⟩⟩
        simp only [VRel]
        refine ⟨_, _, nc, upd_same _ _ _, rfl, c1, c2, .inr ⟨rfl, ?_⟩⟩
        rw [hsize]
        show 0 + 0 + nc * ie.size ≤ nc * ie.size
        omega

end
end Go.Abs
namespace Go.Abs
open Go Go.MapKept

section
variable {P : Program} {T : Tab}

theorem TIs.mapK {t : TypeId} {i : TI} {inf : TypeInfo} {d : TypeDesc} {z : Value} (h : TIs P T t i inf d z) {kt et : TypeId} (hk : i.kind = .map kt et) : d = .map kt et ∧ i.agg = false ∧ i.shape = [.map] := by
  have h0 := h.kind
  unfold tkOk at h0
  rw [hk] at h0
  split at h0 <;> simp_all
theorem TIs.mapS {t : TypeId} {i : TI} {inf : TypeInfo} {d : TypeDesc} {z : Value} (h : TIs P T t i inf d z) (hs : i.shape = [.map]) (_ : i.agg = false) : ∃ kt et, d = .map kt et := by
  have h0 := h.kind
  unfold tkOk at h0
  rw [hs] at h0
  split at h0 <;> simp_all

/-- What is asked of a key's value. -/
structure KeyIs (P : Program) (kt : TypeId) (x : AVal) (d : TypeDesc) : Prop where
  und : P.underlying kt = some d
  key : ∀ (ρ : Mp) (lm : Lp) (v : Value), VRel ρ lm x v → IsKey d v
  same : ∀ (ρ ρ' : Mp) (lm lm' : Lp) (y : AVal) (v u : Value) (r : Bool), VRel ρ lm x v → VRel ρ' lm' y u → keyEq x y = some r → Instr.sameNow d v u = some r ∧ (r = true ↔ v = u)
  loc : x.noLoc = true
theorem keyTy_is (ok : TabOK P T) {kt : TypeId} {x : AVal} {u : Unit} (h : keyTy T kt x = some u) : ∃ d, KeyIs P kt x d := by
  unfold keyTy at h
  obtain ⟨i, hi, h2⟩ := Option.bind_eq_some_iff.1 h
  clear h
  obtain ⟨inf, d, z, ti⟩ := ok.tis hi
  split at h2
  · rename_i kd kd' n ha hs
    split at h2
    · rename_i he
      simp only [decide_eq_true_eq] at he
      subst he
      obtain rfl := ti.int hs ha
      refine ⟨_, ti.und, fun ρ lm v hv => ?_, fun ρ ρ' lm lm' y v u r hv hu hr => ?_, rfl⟩
      · simp only [VRel] at hv; subst hv; exact rfl
      · simp only [VRel] at hv; subst hv
        cases y <;> simp only [keyEq] at hr <;> try (cases hr; done)
        split at hr
        · rename_i he
          simp only [decide_eq_true_eq] at he
          injection hr with hr
          subst hr; subst he
          simp only [VRel] at hu; subst hu
          exact ⟨by simp [Instr.sameNow], by simp⟩
        · cases hr
    · cases h2
  · rename_i s ha hs
    obtain rfl := ti.str hs ha
    refine ⟨_, ti.und, fun ρ lm v hv => ?_, fun ρ ρ' lm lm' y v u r hv hu hr => ?_, rfl⟩
    · simp only [VRel] at hv; subst hv; trivial
    · simp only [VRel] at hv; subst hv
      cases y <;> simp only [keyEq] at hr <;> try (cases hr; done)
      rename_i b
      injection hr with hr
      simp only [VRel] at hu; subst hu
      have e1 : ∀ a b : ByteArray, (a == b) = (a.toList == b.toList) := fun a b => by
        rw [Bool.eq_iff_iff, bytes_beq, beq_iff_eq]
        exact ⟨fun h => by rw [h], fun h => by rw [ByteArray.toList_eq, ByteArray.toList_eq] at h; cases a; cases b; congr; exact Array.ext' h⟩
      subst hr
      refine ⟨by simp only [Instr.sameNow]; rw [e1], ?_⟩
      rw [← e1, bytes_beq]
      simp
  · cases h2

/-- The entries of a map, in memory and in the world. -/
def MRel (ρ : Mp) (es : List (AVal × AVal)) (ms : List MapEntry) : Prop :=
  ms.length = es.length ∧ ∀ (j : Nat) (k v : AVal), es[j]? = some (k, v) → ∃ me, ms[j]? = some me ∧ VRel ρ noL k me.key ∧ VRel ρ noL v me.val

theorem findC_rel {kt : TypeId} {d : TypeDesc} {x : AVal} (hk : KeyIs P kt x d) {ρ ρ' : Mp} {lm : Lp} {vx : Value} (hx : VRel ρ lm x vx) :
    ∀ (es : List (AVal × AVal)) (ms : List MapEntry) (i : Nat) (r : Option (Nat × AVal)), findC x es i = some r → MRel ρ' es ms →
      (r = none ∧ Instr.findNow d vx ms i = some none ∧ ∀ m ∈ ms, m.key ≠ vx) ∨
      ∃ j m v, r = some (i + j, v) ∧ Instr.findNow d vx ms i = some (some (i + j, m.val)) ∧ ms[j]? = some m ∧ m.key = vx ∧ VRel ρ' noL v m.val ∧ (∃ y, es[j]? = some (y, v))
  | [], ms, i, r, h, hm => by
    obtain rfl := List.eq_nil_of_length_eq_zero hm.1
    simp only [findC] at h
    injection h with h
    exact .inl ⟨h.symm, rfl, by simp⟩
  | (y, v) :: es, [], i, r, h, hm => by have := hm.1; simp at this
  | (y, v) :: es, m :: ms, i, r, h, hm => by
    obtain ⟨m', g1, g2, g3⟩ := hm.2 0 y v rfl
    simp at g1
    subst g1
    have hm' : MRel ρ' es ms := ⟨by have := hm.1; simpa using this, fun j k u hj => by simpa using hm.2 (j + 1) k u (by simpa using hj)⟩
    simp only [findC] at h
    split at h
    · rename_i hq
      injection h with h
      subst h
      obtain ⟨s1, s2⟩ := hk.same _ _ _ _ _ _ _ _ hx g2 hq
      exact .inr ⟨0, m, v, rfl, by simp [Instr.findNow, s1], rfl, (s2.1 rfl).symm, g3, ⟨y, rfl⟩⟩
    · rename_i hq
      obtain ⟨s1, s2⟩ := hk.same _ _ _ _ _ _ _ _ hx g2 hq
      have hne : m.key ≠ vx := fun h => by have := s2.2 h.symm; cases this
      rcases findC_rel hk hx es ms (i + 1) r h hm' with ⟨k1, k2, k3⟩ | ⟨j, m', v', k1, k2, k3, k4, k5, y', k6⟩
      · exact .inl ⟨k1, by simp [Instr.findNow, s1, k2], fun m' hm' => by
          cases hm' with
          | head => exact hne
          | tail _ h => exact k3 m' h⟩
      · exact .inr ⟨j + 1, m', v', by rw [k1]; congr 2; omega, by simp [Instr.findNow, s1, k2]; omega, by simpa using k3, k4, k5, y', by simpa using k6⟩
    · cases h

/-- A map in memory is one in the world. -/
theorem entries_rel {ρ : Mp} {lm : Lp} {σ : Heap} {w : World} (hH : HRel ρ σ w) {b : Option Nat} {v : Value} (hv : VRel ρ lm (.map b) v) {es : List (AVal × AVal)} (h : σ.entries b = some es) :
    (b = none ∧ es = [] ∧ v = .map none) ∨ ∃ b' pl m ms cl, b = some b' ∧ ρ b' = some pl ∧ (m = .ro ∨ m = .rw) ∧ σ[b']? = some (.map es m) ∧ v = .map (some pl.blk) ∧ w.heap[pl.blk]? = some (.map ms cl) ∧ Stamped ms cl ∧ MRel ρ es ms.toList := by
  cases b with
  | none =>
    simp only [Heap.entries] at h
    injection h with h
    simp only [VRel] at hv
    exact .inl ⟨rfl, h.symm, hv⟩
  | some b =>
    simp only [VRel] at hv
    obtain ⟨pl, hp, hv⟩ := hv
    obtain ⟨x, hx, hB⟩ := hH.blk b pl hp
    simp only [Heap.entries, hx] at h
    cases x with
    | row cs m => cases m <;> simp at h
    | tys b t sz => simp at h
    | map es' m =>
      cases m with
      | dead => simp at h
      | ro | rw =>
        simp only [Option.some.injEq] at h
        subst h
        obtain ⟨ms, cl, h1, h0, h2, h3⟩ := hB
        exact .inr ⟨b, pl, _, ms, cl, rfl, hp, by simp, hx, hv, h1, h0, by simpa using h2, fun j k v hj => by simpa using h3 j k v hj⟩

theorem run_lookup_some {w : World} {t kt et : TypeId} {d : TypeDesc} {key : Value} {r : Nat} {ms : Array MapEntry} {cl : Nat} {a : Option (Nat × Value)} {cok : Bool} {z : Value} (hm : P.underlying t = some (.map kt et)) (hd : P.underlying kt = some d) (hk : IsKey d key)
    (hb : w.heap[r]? = some (.map ms cl)) (hz : (zeroValue et).run P w = .ok z w) (hf : Instr.findNow d key ms.toList 0 = some a) :
    (Instr.lookup t (.map (some r)) key cok).run P w = .ok (let p := match a with | some q => (q.2, true) | none => (z, false); if cok then .tuple #[p.1, .bool p.2] else p.1) w := by
  cases a with
  | none => cases cok <;> simp [Instr.lookup, run_underlying hm, MapKept.run_getObj_map hb, run_checkKey hd hk, run_findKey hd hf, hz]
  | some q => obtain ⟨i, v⟩ := q; cases cok <;> simp [Instr.lookup, run_underlying hm, MapKept.run_getObj_map hb, run_checkKey hd hk, run_findKey hd hf]
theorem run_lookup_none {w : World} {t kt et : TypeId} {d : TypeDesc} {key : Value} {cok : Bool} {z : Value} (hm : P.underlying t = some (.map kt et)) (hd : P.underlying kt = some d) (hk : IsKey d key) (hz : (zeroValue et).run P w = .ok z w) :
    (Instr.lookup t (.map none) key cok).run P w = .ok (if cok then .tuple #[z, .bool false] else z) w := by
  have hf : Instr.findNow d key [] 0 = some none := rfl
  cases cok <;> simp [Instr.lookup, run_underlying hm, run_checkKey hd hk, run_findKey hd hf, hz]

/-- What is looked up. -/
theorem lookup_rel {kt : TypeId} {d : TypeDesc} {x z : AVal} (hk : KeyIs P kt x d) {ρ : Mp} {lm : Lp} {σ : Heap} {w : World} (hH : HRel ρ σ w) {b : Option Nat} {vm vx vz : Value} (hm : VRel ρ lm (.map b) vm) (hx : VRel ρ lm x vx) (hz : VRel ρ noL z vz)
    {t et : TypeId} (hu : P.underlying t = some (.map kt et)) (hzv : (zeroValue et).run P w = .ok vz w) {v : AVal} (h : σ.look b x z = some v) {hb : Bool} :
    ∃ u ub, (∀ cok, (Instr.lookup t vm vx cok).run P w = .ok (if cok then .tuple #[u, .bool ub] else u) w) ∧ VRel ρ noL v u ∧ (σ.has b x = some hb → hb = ub) := by
  unfold Heap.look at h
  obtain ⟨es, he, h⟩ := Option.bind_eq_some_iff.1 h
  obtain ⟨r, hr, h⟩ := Option.map_eq_some_iff.1 h
  have hkey := hk.key ρ lm vx hx
  have hhas : σ.has b x = some r.isSome := by simp [Heap.has, he, hr]
  rcases entries_rel hH hm he with ⟨rfl, rfl, rfl⟩ | ⟨b', pl, m, ms, cl, rfl, hp, _, hs, rfl, hw, hst, hM⟩
  · simp only [findC] at hr
    injection hr with hr
    subst hr
    simp only at h
    subst h
    exact ⟨vz, false, fun cok => run_lookup_none hu hk.und hkey hzv, hz, fun e => by rw [hhas] at e; injection e with e; exact e.symm⟩
  · rcases findC_rel hk hx es ms.toList 0 r hr hM with ⟨rfl, k2, _⟩ | ⟨j, m', v', rfl, k2, _, _, k5, _⟩
    · simp only at h
      subst h
      exact ⟨vz, false, fun cok => run_lookup_some hu hk.und hkey hw hzv k2, hz, fun e => by rw [hhas] at e; injection e with e; exact e.symm⟩
    · simp only at h
      subst h
      exact ⟨m'.val, true, fun cok => run_lookup_some hu hk.und hkey hw hzv k2, k5, fun e => by rw [hhas] at e; injection e with e; exact e.symm⟩

theorem mput_some {σ σ' : Heap} {b : Option Nat} {k v : AVal} (h : σ.mput b k v = some σ') : ∃ b' es r, b = some b' ∧ σ[b']? = some (.map es .rw) ∧ findC k es 0 = some r ∧
    σ' = σ.set b' (.map (match r with | some q => es.set q.1 (k, v) | none => es ++ [(k, v)]) .rw) := by
  unfold Heap.mput at h
  obtain ⟨b', rfl, h1⟩ := Option.bind_eq_some_iff.1 h
  clear h
  split at h1
  · rename_i es hb
    obtain ⟨r, hr, h⟩ := Option.map_eq_some_iff.1 h1
    refine ⟨b', es, r, rfl, hb, hr, ?_⟩
    cases r <;> exact h.symm
  · cases h1
theorem mdel_some {σ σ' : Heap} {b : Option Nat} {k : AVal} (h : σ.mdel b k = some σ') : (b = none ∧ σ' = σ) ∨ ∃ b' es r, b = some b' ∧ σ[b']? = some (.map es .rw) ∧ findC k es 0 = some r ∧
    σ' = σ.set b' (.map (match r with | some q => es.eraseIdx q.1 | none => es) .rw) := by
  unfold Heap.mdel at h
  split at h
  · injection h with h
    exact .inl ⟨rfl, h.symm⟩
  · rename_i b'
    split at h
    · rename_i es hb
      obtain ⟨r, hr, h⟩ := Option.map_eq_some_iff.1 h
      refine .inr ⟨b', es, r, rfl, hb, hr, ?_⟩
      cases r with
      | some q => exact h.symm
      | none =>
        simp only at h
        subst h
        refine List.ext_getElem? fun i => ?_
        by_cases e : i = b'
        · subst e; rw [hb, List.getElem?_set_self (List.getElem?_eq_some_iff.1 hb).1]
        · rw [List.getElem?_set_ne (Ne.symm e)]
    · cases h

theorem mput_run {kt : TypeId} {d : TypeDesc} {x y : AVal} (hk : KeyIs P kt x d) {ρ : Mp} {lm : Lp} {l : Locs} {σ σ' : Heap} {w : World} (hH : HRel ρ σ w) (hL : LRel ρ lm l σ w) {b : Option Nat} {vm vx vy : Value} (hm : VRel ρ lm (.map b) vm) (hx : VRel ρ lm x vx) (hy : VRel ρ noL y vy)
    {t et : TypeId} (hu : P.underlying t = some (.map kt et)) (h : σ.mput b x y = some σ') :
    ∃ w', (Instr.mapUpdate t vm vx vy).run P w = .ok () w' ∧ HRel ρ σ' w' ∧ LRel ρ lm l σ' w' ∧ Step ρ lm l σ w ρ lm l σ' w' := by
  obtain ⟨b', es, r, rfl, hs, hr, rfl⟩ := mput_some h
  have he : σ.entries (some b') = some es := by simp [Heap.entries, hs]
  rcases entries_rel hH hm he with ⟨hn, _⟩ | ⟨b1, pl, m, ms, cl, hb1, hp, _, _, rfl, hw, hst, hM⟩
  · cases hn
  injection hb1 with hb1
  subst hb1
  have hkey := hk.key ρ lm vx hx
  have hx0 : VRel ρ noL x vx := hx.noLoc hk.loc
  rcases findC_rel hk hx es ms.toList 0 r hr hM with ⟨rfl, k2, k3⟩ | ⟨j, m', v', rfl, k2, k3, k4, _, y', k6⟩
  · refine ⟨{ w with heap := w.heap.setIfInBounds pl.blk (.map (ms.push { key := vx, val := vy, born := cl }) (cl + 1)) }, ?_, turn_block hH hL b' pl _ _ hp hs rfl ?_ (.inl rfl) rfl rfl rfl (by simp) (fun i hi => by simp [Ne.symm hi])⟩
    · simp [Instr.mapUpdate, run_underlying hu, MapKept.run_getObj_map hw, run_checkKey hk.und hkey, run_findKey hk.und k2, MapKept.run_setObj_map _ hw]
    · refine ⟨_, _, (heap_set hw).1, stamped_push hst (fun e he => k3 e he), ?_, fun j k v hj => ?_⟩
      · have := hM.1; simp at this ⊢; exact this
      · have hl : ms.size = es.length := by have := hM.1; simpa using this
        by_cases hj' : j < es.length
        · rw [List.getElem?_append_left hj'] at hj
          obtain ⟨me, e1, e2⟩ := hM.2 j k v hj
          exact ⟨me, by rw [Array.getElem?_push, if_neg (by omega)]; simpa using e1, e2⟩
        · rw [List.getElem?_append_right (by omega)] at hj
          have : j = es.length := by
            rcases Nat.lt_or_ge es.length j with h | h
            · rw [List.getElem?_eq_none (by simp; omega)] at hj; cases hj
            · omega
          subst this
          simp at hj
          obtain ⟨rfl, rfl⟩ := hj
          exact ⟨_, by rw [Array.getElem?_push, if_pos hl.symm], hx0, hy⟩
  · have hj : ms[j]? = some m' := by simpa using k3
    simp only [Nat.zero_add] at k2 h
    refine ⟨{ w with heap := w.heap.setIfInBounds pl.blk (.map (ms.modify j fun e => { e with key := vx, val := vy }) cl) }, ?_, turn_block hH hL b' pl _ _ hp hs rfl ?_ (.inl rfl) rfl rfl rfl (by simp) (fun i hi => by simp [Ne.symm hi])⟩
    · simp [Instr.mapUpdate, run_underlying hu, MapKept.run_getObj_map hw, run_checkKey hk.und hkey, run_findKey hk.und k2, hj, k4, run_keyThatStays hkey, MapKept.run_setObj_map _ hw]
    · have hkeq : ∀ e', ms[j]? = some e' → ({ e' with key := vx, val := vy } : MapEntry).key = e'.key := fun e' he' => by rw [hj] at he'; cases he'; exact k4.symm
      refine ⟨_, _, (heap_set hw).1, stamped_modify hst _ _ (fun _ _ => rfl) (fun e' _ he' => hkeq e' he'), ?_, fun i k v hi => ?_⟩
      · have := hM.1; simp at this ⊢; exact this
      · have hl : ms.size = es.length := by have := hM.1; simpa using this
        simp only [Nat.zero_add] at hi
        rw [List.getElem?_set] at hi
        rw [Array.getElem?_modify]
        split at hi
        · rename_i hji
          subst hji
          have hlt : j < es.length := by rw [← hl]; exact (Array.getElem?_eq_some_iff.1 hj).1
          rw [if_pos hlt] at hi
          injection hi with hi
          injection hi with e1 e2
          subst e1; subst e2
          rw [if_pos rfl, hj]
          exact ⟨_, rfl, hx0, hy⟩
        · rename_i hji
          rw [if_neg hji]
          obtain ⟨me, e1, e2⟩ := hM.2 i k v hi
          exact ⟨me, by simpa using e1, e2⟩

theorem mdel_run {kt kt' : TypeId} {d : TypeDesc} {x : AVal} (hk : KeyIs P kt x d) {ρ : Mp} {lm : Lp} {l : Locs} {σ σ' : Heap} {w : World} (hH : HRel ρ σ w) (hL : LRel ρ lm l σ w) {b : Option Nat} {vm vx : Value} (hm : VRel ρ lm (.map b) vm) (hx : VRel ρ lm x vx)
    {t et ty : TypeId} (hu : P.underlying t = some (.map kt et)) (h : σ.mdel b x = some σ') :
    ∃ w', (Builtin.delete_ #[t, kt'] ty #[vm, vx]).run P w = .ok (.tuple #[]) w' ∧ HRel ρ σ' w' ∧ LRel ρ lm l σ' w' ∧ Step ρ lm l σ w ρ lm l σ' w' := by
  have hkey := hk.key ρ lm vx hx
  rcases mdel_some h with ⟨rfl, rfl⟩ | ⟨b', es, r, rfl, hs, hr, rfl⟩
  · simp only [VRel] at hm
    subst hm
    exact ⟨w, by simp [Builtin.delete_, run_underlying hu, run_checkKey hk.und hkey], hH, hL, Step.refl ..⟩
  have he : σ.entries (some b') = some es := by simp [Heap.entries, hs]
  rcases entries_rel hH hm he with ⟨hn, _⟩ | ⟨b1, pl, m, ms, cl, hb1, hp, _, _, rfl, hw, hst, hM⟩
  · cases hn
  injection hb1 with hb1
  subst hb1
  rcases findC_rel hk hx es ms.toList 0 r hr hM with ⟨rfl, k2, k3⟩ | ⟨j, m', v', rfl, k2, k3, k4, _, y', k6⟩
  · refine ⟨{ w with heap := w.heap.setIfInBounds pl.blk (.map ms cl) }, ?_, turn_block hH hL b' pl _ _ hp hs rfl ?_ (.inl rfl) rfl rfl rfl (by simp) (fun i hi => by simp [Ne.symm hi])⟩
    · simp [Builtin.delete_, run_underlying hu, MapKept.run_getObj_map hw, run_checkKey hk.und hkey, run_findKey hk.und k2, MapKept.run_setObj_map _ hw]
    · exact ⟨_, _, (heap_set hw).1, hst, by simpa using hM.1, fun j k v hj => by simpa using hM.2 j k v hj⟩
  · have hj : ms[j]? = some m' := by simpa using k3
    have hjl := (Array.getElem?_eq_some_iff.1 hj).1
    simp only [Nat.zero_add] at k2
    refine ⟨{ w with heap := w.heap.setIfInBounds pl.blk (.map (ms.eraseIdxIfInBounds j) cl) }, ?_, turn_block hH hL b' pl _ _ hp hs rfl ?_ (.inl rfl) rfl rfl rfl (by simp) (fun i hi => by simp [Ne.symm hi])⟩
    · simp [Builtin.delete_, run_underlying hu, MapKept.run_getObj_map hw, run_checkKey hk.und hkey, run_findKey hk.und k2, MapKept.run_setObj_map _ hw]
    · have hl : ms.size = es.length := by have := hM.1; simpa using this
      have hto : (ms.eraseIdxIfInBounds j).toList = ms.toList.eraseIdx j := by
        unfold Array.eraseIdxIfInBounds
        rw [dif_pos hjl]
        simp
      refine ⟨_, _, (heap_set hw).1, stamped_erase hst j, ?_, fun i k v hi => ?_⟩
      · have := congrArg List.length hto
        simp only [Nat.zero_add]
        rw [List.length_eraseIdx, if_pos (by rw [Array.length_toList]; exact hjl), Array.length_toList, Array.length_toList] at this
        rw [List.length_eraseIdx, if_pos (by omega), this]
        omega
      · simp only [Nat.zero_add] at hi
        rw [List.getElem?_eraseIdx] at hi
        have : (ms.eraseIdxIfInBounds j)[i]? = (ms.toList.eraseIdx j)[i]? := by rw [← hto, Array.getElem?_toList]
        rw [this, List.getElem?_eraseIdx]
        split at hi
        · rename_i hlt
          rw [if_pos hlt]
          exact hM.2 i k v hi
        · rename_i hlt
          rw [if_neg hlt]
          exact hM.2 (i + 1) k v hi
end
end Go.Abs
namespace Go.Abs
open Go

section
variable {P : Program} {T : Tab} {R : Type} {o : Oper} {e : Env} {l : Locs} {σ : Heap} {k : AVal → Locs → Heap → Option R} {r : R}

/-- What a builtin takes up, on both sides. -/
theorem src_rel (_ : TabOK P T) {xt et : TypeId} {xi ie : TI} (_ : T.ti xt = some xi) (_ : T.ti et = some ie) {ρ : Mp} {lm : Lp} {w : World} (hH : HRel ρ σ w) (hL : LRel ρ lm l σ w) {x : AVal} {v : Value} (hv : VRel ρ lm x v)
    {m n : Nat} {vs : List AVal} (hn : srcLen x = some n) (hm : m ≤ n) (h : srcC xi ie x m l σ = some vs) :
    (Builtin.lenOf v).run P w = .ok n w ∧ ∃ us : List Value, VRels ρ noL vs us ∧ us.length = m * ie.size ∧ (∀ u ∈ us, u.oneCell' = true) ∧
      (∀ w' : World, w'.heap = w.heap → (Builtin.firstCells ie.size m v).run P w' = .ok us.toArray w') ∧ ((∃ e', xi.kind = .slice e') ∨ (xi.shape = [.str] ∧ xi.agg = false)) := by
  unfold srcC at h
  split at h
  · rename_i b o' n' z
    simp only [srcLen, Option.some.injEq] at hn
    subst hn
    split at h
    · rename_i e' hk hz
      simp only [decide_eq_true_eq] at hz
      have hlen : (Builtin.lenOf v).run P w = .ok n' w := by
        cases b with
        | none => simp only [VRel] at hv; obtain ⟨_, rfl, rfl⟩ := hv; rfl
        | some b => simp only [VRel] at hv; obtain ⟨_, _, _, _, rfl, _⟩ := hv; rfl
      refine ⟨hlen, ?_⟩
      -- a shorter slice
      have hv' : ∃ v', VRel ρ lm (.slice b o' m ie.size) v' ∧ ∀ (w' : World), (Builtin.firstCells ie.size m v').run P w' = (Builtin.firstCells ie.size m v).run P w' := by
        cases b with
        | none =>
          simp only [VRel] at hv
          obtain ⟨rfl, rfl, rfl⟩ := hv
          obtain rfl : m = 0 := by omega
          exact ⟨.slice none 0 0, by simp [VRel], fun _ => rfl⟩
        | some b =>
          simp only [VRel] at hv
          obtain ⟨pl, a, cap, h1, rfl, h2, h3, h4⟩ := hv
          obtain rfl : z = ie.size := hz.resolve_right (by simp)
          exact ⟨.slice (some a) m cap, by simp only [VRel]; exact ⟨pl, a, cap, h1, rfl, by omega, h3, h4⟩, fun _ => rfl⟩
      obtain ⟨v', q1, q2⟩ := hv'
      obtain ⟨us, r1, r2, r3, r4⟩ := read_rel (P := P) hH h q1
      have hul : us.length = m * ie.size := by
        rw [r2]
        split
        · rename_i hb
          subst hb
          simp only [VRel] at hv
          have : m = 0 := by omega
          simp [this]
        · rfl
      refine ⟨us, r1, hul, r3, fun w' hw' => ?_, .inl ⟨e', hk⟩⟩
      rw [← q2]
      have := r4 m (by omega) w' hw'
      rwa [List.take_of_length_le (by omega)] at this
    · cases h
  · rename_i s n' z
    simp only [srcLen, Option.some.injEq] at hn
    subst hn
    split at h
    · rename_i e' cs hk hs hc
      simp only [Bool.and_eq_true, decide_eq_true_eq] at hc
      split at h
      · rename_i hcl
        injection h with h
        subst h
        simp only [VRel] at hv
        obtain ⟨b, hb, rfl⟩ := hv
        obtain ⟨_, h2⟩ := hL.loc s b hb
        obtain ⟨c, ty, fr, g1, g2, g3, g4⟩ := h2.of_cells hs
        have hgl := g3.length
        have hle : m * ie.size ≤ cs.length := by rw [hcl]; exact Nat.mul_le_mul_right _ hm
        have hul : (c.toList.take (m * ie.size)).length = m * ie.size := by rw [List.length_take]; omega
        refine ⟨rfl, c.toList.take (m * ie.size), VRels.of_get (by rw [List.length_take, List.length_take]; omega) fun j x hx => ?_, hul, fun u hu => g4 u (List.mem_of_mem_take hu), fun w' hw' => ?_, .inl ⟨e', hk⟩⟩
        · rw [List.getElem?_take] at hx ⊢
          split at hx
          · rename_i hj; rw [if_pos hj]; exact g3.get j x hx
          · cases hx
        · simp only [Builtin.firstCells]
          have := run_loadCells_list (P := P) w' ⟨b, 0, none⟩ (c.toList.take (m * ie.size)) (fun j v hj => by
            rw [add_none]
            rw [List.getElem?_take] at hj
            split at hj
            · simp only [World.cell?, hw', g1]
              simpa using hj
            · cases hj)
          rwa [hul] at this
      · cases h
    · cases h
  · rename_i s
    simp only [srcLen, Option.some.injEq] at hn
    subst hn
    split at h
    · rename_i ha hs hea hes
      injection h with h
      subst h
      simp only [VRel] at hv
      subst hv
      have hsz : ie.size = 1 := by simp [TI.size, hes]
      have hdl : s.data.toList.length = s.size := by rw [Array.length_toList]; rfl
      refine ⟨rfl, ((s.data.toList.map fun b => Value.int .u8 b.toNat).take m), VRels.of_get (by simp) fun j x hx => ?_, by rw [List.length_take, List.length_map, hdl, hsz]; omega, fun u hu => ?_, fun w' _ => ?_, .inr ⟨hs, ha⟩⟩
      · rw [List.getElem?_take] at hx ⊢
        split at hx
        · rename_i hj
          rw [if_pos hj]
          rw [List.getElem?_map, Option.map_eq_some_iff] at hx
          obtain ⟨y, hy, rfl⟩ := hx
          exact ⟨.int .u8 y.toNat, by rw [List.getElem?_map, hy]; rfl, by simp [VRel]⟩
        · cases hx
      · obtain ⟨y, _, rfl⟩ := List.mem_map.1 (List.mem_of_mem_take hu)
        rfl
      · simp only [Builtin.firstCells, Sem.run_pure]
        congr 1
        apply Array.ext'
        simp only [Array.toList_map]
        congr 1
        simp [ByteArray.data_extract]
    · cases h
  · cases h

theorem snd_builtin (ok : TabOK P T) {c : Call} {b : Builtin} (hop : o.op = .call c) (hb : c.callee = .builtin b) (h : builtinC T b c.argTypes.toList (c.args.toList.map (ev T e)) l σ k = some r) : Snd P T o e l σ k r := by
  have exec : ∀ (A : Act) (w : World) (v : Value) (w' : World), (builtin b c.argTypes o.type (c.args.map fun | .const _ => true | _ => false) (c.args.map A.eval)).run P w = .ok (.value v) w' → (execOp A.eval o).run P w = .ok (.value v) w' := fun A w v w' hr => by
    simp only [execOp, hop, resolve, hb, Sem.run_bind, Sem.run_pure, Result.andThen_ok, invoke]
    exact hr
  have hops : ∀ {ρ : Mp} {lm : Lp} {A : Act}, (∀ x ∈ o.op.operands.toList, VRel ρ lm (ev T e x) (A.eval x)) → ∀ x ∈ c.args.toList, VRel ρ lm (ev T e x) (A.eval x) := fun ho x hx =>
    ho x (by simp [hop, Op.operands, Call.operands, hb]; exact Array.mem_toList_iff.1 hx)
  have arr : ∀ {α : Type} {xs : Array α} {l : List α}, xs.toList = l → xs = l.toArray := fun h => by rw [← h]
  unfold builtinC at h
  split at h
  · -- len
    rename_i t x ht hx
    obtain ⟨y, hy, rfl⟩ := List.map_eq_singleton_iff.1 hx
    have ht := arr ht
    have hy' := arr hy
    rw [Option.bind_eq_some_iff] at h
    obtain ⟨i, hi, h⟩ := h
    obtain ⟨inf, d, z, ti⟩ := ok.tis hi
    split at h
    · rename_i b0 o0 n0 z0 hv
      split at h
      · rename_i et hk
        obtain ⟨rfl, _, _⟩ := ti.slice hk
        refine ⟨_, _, _, h, .pure fun ρ lm A w _ _ ho => ⟨.int .i64 n0, exec A w _ w ?_, by simp [VRel]⟩⟩
        have h1 := hops ho y (by rw [hy]; simp)
        rw [hv] at h1
        rw [ht, hy']
        cases b0 with
        | none =>
          simp only [VRel] at h1
          obtain ⟨_, rfl, h1⟩ := h1
          simp [builtin, Builtin.len_, h1, ti.run_underlying, goInt]
        | some b0 =>
          simp only [VRel] at h1
          obtain ⟨_, _, _, _, h1, _⟩ := h1
          simp [builtin, Builtin.len_, h1, ti.run_underlying, goInt]
      · cases h
    · rename_i s0 n0 z0 hv
      split at h
      · rename_i et hk
        obtain ⟨rfl, _, _⟩ := ti.slice hk
        refine ⟨_, _, _, h, .pure fun ρ lm A w _ _ ho => ⟨.int .i64 n0, exec A w _ w ?_, by simp [VRel]⟩⟩
        have h1 := hops ho y (by rw [hy]; simp)
        rw [hv] at h1
        rw [ht, hy']
        simp only [VRel] at h1
        obtain ⟨_, _, h1⟩ := h1
        simp [builtin, Builtin.len_, h1, ti.run_underlying, goInt]
      · cases h
    · rename_i s hv
      split at h
      · rename_i ha hs
        obtain rfl := ti.str hs ha
        refine ⟨_, _, _, h, .pure fun ρ lm A w _ _ ho => ⟨.int .i64 s.size, exec A w _ w ?_, by simp [VRel]⟩⟩
        have h1 := hops ho y (by rw [hy]; simp)
        rw [hv] at h1
        rw [ht, hy']
        simp only [VRel] at h1
        simp [builtin, Builtin.len_, h1, ti.run_underlying, goInt]
      · cases h
    · rename_i b0 hv
      split at h
      · rename_i kt et hk
        obtain ⟨rfl, _, _⟩ := ti.mapK hk
        obtain ⟨es, he, h⟩ := Option.bind_eq_some_iff.1 h
        refine ⟨_, _, _, h, .pure fun ρ lm A w hH _ ho => ⟨.int .i64 es.length, exec A w _ w ?_, by simp [VRel]⟩⟩
        have h1 := hops ho y (by rw [hy]; simp)
        rw [hv] at h1
        rw [ht, hy']
        rcases entries_rel hH h1 he with ⟨rfl, rfl, hm⟩ | ⟨b', pl, m, ms, cl, rfl, hp, _, _, hm, hw, _, hM⟩
        · simp [builtin, Builtin.len_, hm, ti.run_underlying, goInt]
        · have hl : ms.size = es.length := by have := hM.1; simpa using this
          simp [builtin, Builtin.len_, hm, ti.run_underlying, goInt, MapKept.run_getObj_map hw, hl]
      · cases h
    · cases h
  · -- delete
    rename_i t t2 b0 x ht hx
    obtain ⟨y1, ys, hy, e1, e2⟩ := List.map_eq_cons_iff.1 hx
    obtain ⟨y2, rfl, rfl⟩ := List.map_eq_singleton_iff.1 e2
    have ht := arr ht
    have hy' := arr hy
    obtain ⟨i, hi, h⟩ := Option.bind_eq_some_iff.1 h
    obtain ⟨inf, d, z, ti⟩ := ok.tis hi
    split at h
    · rename_i kt et hk
      obtain ⟨rfl, _, _⟩ := ti.mapK hk
      obtain ⟨_, hq, h⟩ := Option.bind_eq_some_iff.1 h
      obtain ⟨dk, hkey⟩ := keyTy_is ok hq
      obtain ⟨σ', hd, h⟩ := Option.bind_eq_some_iff.1 h
      refine ⟨_, _, _, h, .of_run fun ρ lm A w hH hL ho => ?_⟩
      have h1 := hops ho y1 (by rw [hy]; simp)
      have h2 := hops ho y2 (by rw [hy]; simp)
      rw [e1] at h1
      obtain ⟨w', q1, q2, q3, q4⟩ := mdel_run (P := P) (kt' := t2) (ty := o.type) hkey hH hL h1 h2 ti.und hd
      refine ⟨_, _, w', ρ, lm, exec A w (.tuple #[]) w' ?_, .inl rfl, q2, q3, by simp only [VRel, VRels]; exact ⟨[], rfl, rfl⟩, q4, LExt.refl ..⟩
      rw [ht, hy']
      simp [builtin, q1]
    · cases h
  · -- append
    rename_i t xt b0 o0 n0 z0 x ht hx
    obtain ⟨y1, ys, hy, e1, e2⟩ := List.map_eq_cons_iff.1 hx
    obtain ⟨y2, rfl, rfl⟩ := List.map_eq_singleton_iff.1 e2
    have ht := arr ht
    have hy' := arr hy
    rw [Option.bind_eq_some_iff] at h
    obtain ⟨i, hi, h⟩ := h
    rw [Option.bind_eq_some_iff] at h
    obtain ⟨xi, hxi, h⟩ := h
    split at h
    · rename_i et hk
      rw [Option.bind_eq_some_iff] at h
      obtain ⟨ie, hie, h⟩ := h
      split at h
      · rename_i hz
        simp only [decide_eq_true_eq] at hz
        rw [Option.bind_eq_some_iff] at h
        obtain ⟨m, hm, h⟩ := h
        rw [Option.bind_eq_some_iff] at h
        obtain ⟨vs, hvs, h⟩ := h
        rw [Option.bind_eq_some_iff] at h
        obtain ⟨⟨⟨b', o2, n2⟩, σ'⟩, hq, h⟩ := h
        refine ⟨_, _, _, h, .of_run fun ρ lm A w hH hL ho => ?_⟩
        have h1 := hops ho y1 (by rw [hy]; simp)
        have h2 := hops ho y2 (by rw [hy]; simp)
        rw [e1] at h1
        obtain ⟨l1, us, r1, r2, r3, r4, r5⟩ := src_rel (P := P) ok hxi hie hH hL h2 hm (Nat.le_refl _) hvs
        obtain ⟨cv, w', ρ', q1, q2, q3, q4, q5, _⟩ := append_run (P := P) ok hi hk hie hxi r5 hH hL h1 hz r1 r2 l1 r4 r3 hq o.type
        refine ⟨_, cv, w', ρ', lm, exec A w cv w' ?_, .inl rfl, q2, q3, q4, q5, LExt.refl ..⟩
        rw [ht, hy']
        simp only [builtin, List.map_toArray, List.map_cons, List.map_nil, Sem.run_bind, q1, Result.andThen_ok, Sem.run_pure]
      · cases h
    · cases h
  · -- copy
    rename_i t xt b0 o0 n0 z0 x ht hx
    obtain ⟨y1, ys, hy, e1, e2⟩ := List.map_eq_cons_iff.1 hx
    obtain ⟨y2, rfl, rfl⟩ := List.map_eq_singleton_iff.1 e2
    have ht := arr ht
    have hy' := arr hy
    rw [Option.bind_eq_some_iff] at h
    obtain ⟨i, hi, h⟩ := h
    rw [Option.bind_eq_some_iff] at h
    obtain ⟨xi, hxi, h⟩ := h
    obtain ⟨inf, d, z, ti⟩ := ok.tis hi
    split at h
    · rename_i et hk
      obtain ⟨rfl, _, _⟩ := ti.slice hk
      rw [Option.bind_eq_some_iff] at h
      obtain ⟨ie, hie, h⟩ := h
      obtain ⟨inf', d', z', ti'⟩ := ok.tis hie
      split at h
      · rename_i hz
        simp only [decide_eq_true_eq] at hz
        rw [Option.bind_eq_some_iff] at h
        obtain ⟨m, hm, h⟩ := h
        rw [Option.bind_eq_some_iff] at h
        obtain ⟨vs, hvs, h⟩ := h
        split at h
        · -- nil
          refine ⟨_, _, _, h, .of_run fun ρ lm A w hH hL ho => ?_⟩
          have h1 := hops ho y1 (by rw [hy]; simp)
          have h2 := hops ho y2 (by rw [hy]; simp)
          rw [e1] at h1
          simp only [VRel] at h1
          obtain ⟨_, rfl, h1⟩ := h1
          obtain ⟨l1, us, r1, r2, r3, r4, r5⟩ := src_rel (P := P) ok hxi hie hH hL h2 hm (Nat.min_le_left _ _) hvs
          refine ⟨_, .int .i64 ((min m 0 : Nat) : Int), w, ρ, lm, exec A w _ w ?_, .inl rfl, hH, hL, by simp [VRel], Step.refl .., LExt.refl ..⟩
          rw [ht, hy']
          have r4' := r4 w rfl
          try simp only [Nat.min_zero] at r4'
          simp [builtin, Builtin.copy_, h1, ti.run_underlying, ti'.run_sizeOf, l1, r4', goInt]
        · rename_i b0
          rw [Option.bind_eq_some_iff] at h
          obtain ⟨σ', hs, h⟩ := h
          refine ⟨_, _, _, h, .of_run fun ρ lm A w hH hL ho => ?_⟩
          have h1 := hops ho y1 (by rw [hy]; simp)
          have h2 := hops ho y2 (by rw [hy]; simp)
          rw [e1] at h1
          simp only [VRel] at h1
          obtain ⟨pl, a, cap, hp, h1, h4, h5, h6⟩ := h1
          obtain ⟨l1, us, r1, r2, r3, r4, r5⟩ := src_rel (P := P) ok hxi hie hH hL h2 hm (Nat.min_le_left _ _) hvs
          have r4' := r4 w rfl
          have e0 : Nat.min m n0 = min m n0 := rfl
          rcases h6 with h6 | ⟨h6, _⟩
          · -- nothing is copied
            have hn0 : n0 = 0 := by omega
            subst hn0
            have hu0 : us = [] := List.eq_nil_of_length_eq_zero (by rw [r2]; simp)
            subst hu0
            have hv0 : vs = [] := by cases vs with | nil => rfl | cons a b => simp only [VRels] at r1; obtain ⟨_, _, h, _⟩ := r1; cases h
            subst hv0
            obtain ⟨cs, hb, hl, rfl⟩ := store_some hs
            have hσ : σ.set b0 (.row (overwrite cs o0 []) .rw) = σ := by
              apply List.ext_getElem?
              intro j
              by_cases e : j = b0
              · subst e
                have hlt := (List.getElem?_eq_some_iff.1 hb).1
                rw [List.getElem?_set_self hlt, hb]
                rfl
              · rw [List.getElem?_set_ne (Ne.symm e)]
            rw [hσ]
            refine ⟨_, .int .i64 ((min m 0 : Nat) : Int), w, ρ, lm, exec A w _ w ?_, .inl rfl, hH, hL, by simp [VRel], Step.refl .., LExt.refl ..⟩
            rw [ht, hy']
            try simp only [Nat.min_zero] at r4'
            simp [builtin, Builtin.copy_, h1, ti.run_underlying, ti'.run_sizeOf, l1, r4', goInt, storeCells]
          · subst h6
            obtain ⟨q1, q2, q3, q4⟩ := heap_store (P := P) hH hL hp hs r1 r3
            refine ⟨_, .int .i64 ((min m n0 : Nat) : Int), _, ρ, lm, exec A w _ _ ?_, .inl rfl, q2, q3, by simp [VRel], q4, LExt.refl ..⟩
            rw [ht, hy']
            simp only [builtin, List.map_toArray, List.map_cons, List.map_nil, Builtin.copy_, h1, Sem.run_bind]
            simp [ti.run_underlying, ti'.run_sizeOf, l1, e0, r4', q1, goInt]
      · cases h
    · cases h
  · -- max
    rename_i kd a kd' a' hx
    obtain ⟨y1, ys, hy, e1, e2⟩ := List.map_eq_cons_iff.1 hx
    obtain ⟨y2, rfl, e3⟩ := List.map_eq_singleton_iff.1 e2
    have hy' := arr hy
    split at h
    · rename_i ek
      subst ek
      refine ⟨_, _, _, h, .pure fun ρ lm A w _ _ ho => ⟨.int kd (if a' > a then a' else a), exec A w _ w ?_, by simp [VRel]⟩⟩
      have h1 := hops ho y1 (by rw [hy]; simp)
      have h2 := hops ho y2 (by rw [hy]; simp)
      rw [e1] at h1
      rw [e3] at h2
      simp only [VRel] at h1 h2
      rw [hy']
      simp [builtin, Builtin.max_, h1, h2, Builtin.max2]
    · cases h
  · -- min
    rename_i kd a kd' a' hx
    obtain ⟨y1, ys, hy, e1, e2⟩ := List.map_eq_cons_iff.1 hx
    obtain ⟨y2, rfl, e3⟩ := List.map_eq_singleton_iff.1 e2
    have hy' := arr hy
    split at h
    · rename_i ek
      subst ek
      refine ⟨_, _, _, h, .pure fun ρ lm A w _ _ ho => ⟨.int kd (if a' < a then a' else a), exec A w _ w ?_, by simp [VRel]⟩⟩
      have h1 := hops ho y1 (by rw [hy]; simp)
      have h2 := hops ho y2 (by rw [hy]; simp)
      rw [e1] at h1
      rw [e3] at h2
      simp only [VRel] at h1 h2
      rw [hy']
      simp [builtin, Builtin.min_, h1, h2, Builtin.min2]
    · cases h
  · rename_i a b' hx
    obtain ⟨y1, ys, hy, e1, e2⟩ := List.map_eq_cons_iff.1 hx
    obtain ⟨y2, rfl, e3⟩ := List.map_eq_singleton_iff.1 e2
    have hy' := arr hy
    refine ⟨_, _, _, h, .pure fun ρ lm A w _ _ ho => ⟨.complex .f64 a b', exec A w _ w ?_, by simp [VRel]⟩⟩
    have h1 := hops ho y1 (by rw [hy]; simp)
    have h2 := hops ho y2 (by rw [hy]; simp)
    rw [e1] at h1
    rw [e3] at h2
    simp only [VRel] at h1 h2
    rw [hy']
    rw [show #[y1, y2].map A.eval = #[A.eval y1, A.eval y2] by simp, h1, h2]
    rfl
  · rename_i a b' hx
    obtain ⟨y1, hy, e1⟩ := List.map_eq_singleton_iff.1 hx
    have hy' := arr hy
    refine ⟨_, _, _, h, .pure fun ρ lm A w _ _ ho => ⟨.float .f64 a, exec A w _ w ?_, by simp [VRel]⟩⟩
    have h1 := hops ho y1 (by rw [hy]; simp)
    rw [e1] at h1
    simp only [VRel] at h1
    rw [hy']
    rw [show #[y1].map A.eval = #[A.eval y1] by simp, h1]
    rfl
  · rename_i a b' hx
    obtain ⟨y1, hy, e1⟩ := List.map_eq_singleton_iff.1 hx
    have hy' := arr hy
    refine ⟨_, _, _, h, .pure fun ρ lm A w _ _ ho => ⟨.float .f64 b', exec A w _ w ?_, by simp [VRel]⟩⟩
    have h1 := hops ho y1 (by rw [hy]; simp)
    rw [e1] at h1
    simp only [VRel] at h1
    rw [hy']
    rw [show #[y1].map A.eval = #[A.eval y1] by simp, h1]
    rfl
  · cases h

theorem snd_makeSlice (ok : TabOK P T) {t : TypeId} {n c : Operand} (hop : o.op = .makeSlice t n c) (h : ((T.ti t).bind fun i =>
      match i.kind, int? (some (ev T e n)) .i64, int? (some (ev T e c)) .i64 with
      | .slice et, some n, some c => (T.ti et).bind fun ie =>
          match decide (0 ≤ n) && decide (n ≤ c) && decide (ie.bytes * c ≤ 70368744177664) && decide (c ≤ 70368744177664) with
          | true => k (.slice (some σ.length) 0 n.toNat ie.size) l (σ ++ [.row ((List.replicate c.toNat ie.zeros).flatten) .rw])
          | false => none
      | _, _, _ => none) = some r) : Snd P T o e l σ k r := by
  rw [Option.bind_eq_some_iff] at h
  obtain ⟨i, hi, h⟩ := h
  obtain ⟨inf, d, z, ti⟩ := ok.tis hi
  split at h
  · rename_i et n' c' hk hn hc
    obtain ⟨rfl, _, _⟩ := ti.slice hk
    rw [Option.bind_eq_some_iff] at h
    obtain ⟨ie, hie, h⟩ := h
    obtain ⟨inf', d', z', ti'⟩ := ok.tis hie
    split at h
    · rename_i hb
      simp only [Bool.and_eq_true, decide_eq_true_eq] at hb
      obtain ⟨⟨⟨b1, b2⟩, b3⟩, b4⟩ := hb
      have hn := int64_some hn
      have hc := int64_some hc
      refine ⟨_, _, _, h, .of_run fun ρ lm A w hH hL ho => ?_⟩
      have h1 := ho n (by simp [hop, Op.operands])
      have h2 := ho c (by simp [hop, Op.operands])
      rw [hn] at h1
      rw [hc] at h2
      simp only [VRel] at h1 h2
      have run := run_make (P := P) w t et inf' z' ti.und ti'.info ti'.zero .i64 .i64 n' c' b1 b2 (by rw [ti'.bytes]; omega) (by omega)
      have hzl : ie.zeros.length = ie.size := by simp [TI.zeros, TI.size]
      have hzs : z'.cells.size = ie.size := by have := (ti'.rel ρ noL).length; simp at this; omega
      have hrel := zeros_rel (ti'.rel ρ noL) c'.toNat (c'.toNat * ie.size) (by rw [hzl])
      have hmc : madeCells z'.cells (c'.toNat * inf'.size) = (Array.range (c'.toNat * ie.size)).map (fun j => z'.cells[j % z'.cells.size]!) := by
        rw [ti'.size]; rfl
      have hfl := flat_len ie.zeros c'.toNat
      rw [hzl] at hfl
      obtain ⟨q1, q2, q3⟩ := new_row hH hL ((List.replicate c'.toNat ie.zeros).flatten) (madeCells z'.cells (c'.toNat * inf'.size)) et (by
        rw [hmc, List.take_of_length_le (by simp [hfl])]; exact hrel) (by rw [hmc]; simp [hfl]) (by
        rw [hmc]
        exact oneCells hrel (cellAll_flat (cellAll_zeros ie) _))
      refine ⟨_, .slice (some ⟨w.heap.size, 0, none⟩) n'.toNat c'.toNat, _, _, lm, ?_, .inl rfl, q1, q2, ?_, q3, LExt.refl ..⟩
      · simp only [execOp, hop, h1, h2, Sem.run_bind, run, Result.andThen_ok, Sem.run_pure]
      · simp only [VRel]
        refine ⟨_, _, c'.toNat, upd_same _ _ _, rfl, by omega, by omega, .inr ⟨rfl, ?_⟩⟩
        rw [hmc]
        simp
    · cases h
  · cases h

theorem typed_get {σ : Heap} {b : Nat} {t : TypeId} {sz : Nat} (h : σ.typed b t sz = true) : ∃ j : Nat, σ[j]? = some (Blk.tys b t sz) := by
  unfold Heap.typed at h
  rw [List.any_eq_true] at h
  obtain ⟨x, hx, h⟩ := h
  obtain ⟨j, hj⟩ := List.mem_iff_getElem?.1 hx
  refine ⟨j, ?_⟩
  split at h
  · simp only [Bool.and_eq_true, beq_iff_eq] at h
    obtain ⟨⟨rfl, rfl⟩, rfl⟩ := h
    exact hj
  · cases h
theorem freeze_heap (w : World) (a : Addr) (n : Nat) : (w.freeze a n).os = w.os ∧ (w.freeze a n).tape = w.tape ∧ (w.freeze a n).output = w.output ∧ (w.freeze a n).heap.size = w.heap.size ∧ ∀ k, k ≠ a.block → (w.freeze a n).heap[k]? = w.heap[k]? := by
  unfold World.freeze
  split
  · exact ⟨rfl, rfl, rfl, rfl, fun _ _ => rfl⟩
  · refine ⟨rfl, rfl, rfl, by simp, fun k hk => ?_⟩
    simp only [Array.getElem?_modify]
    rw [if_neg (Ne.symm hk)]
theorem bytesX_get : ∀ {cs : List AVal} {bs : List UInt8}, bytesX cs = some bs → cs = bs.map fun x => AVal.int .u8 (x.toNat : Int)
  | [], bs, h => by simp only [bytesX, Option.some.injEq] at h; subst h; rfl
  | c :: cs, bs, h => by
    unfold bytesX at h
    split at h
    · rename_i e; cases e
    · rename_i n r e
      injection e with e1 e2
      subst e1; subst e2
      split at h
      · rename_i hn
        simp only [decide_eq_true_eq] at hn
        obtain ⟨l, h1, rfl⟩ := Option.map_eq_some_iff.1 h
        rw [List.map_cons, ← bytesX_get h1, hn]
      · cases h
    · cases h
/-- The builtins of the functions that keep types in mind. -/
theorem snd_builtinU (ok : TabOK P T) {c : Call} {b : Builtin} (hop : o.op = .call c) (hb : c.callee = .builtin b) (h : builtinU T b c.argTypes.toList (c.args.toList.map (ev T e)) l σ k = some r) : Snd P T o e l σ k r := by
  have exec : ∀ (A : Act) (w : World) (v : Value) (w' : World), (builtin b c.argTypes o.type (c.args.map fun | .const _ => true | _ => false) (c.args.map A.eval)).run P w = .ok (.value v) w' → (execOp A.eval o).run P w = .ok (.value v) w' := fun A w v w' hr => by
    simp only [execOp, hop, resolve, hb, Sem.run_bind, Sem.run_pure, Result.andThen_ok, invoke]
    exact hr
  have hops : ∀ {ρ : Mp} {lm : Lp} {A : Act}, (∀ x ∈ o.op.operands.toList, VRel ρ lm (ev T e x) (A.eval x)) → ∀ x ∈ c.args.toList, VRel ρ lm (ev T e x) (A.eval x) := fun ho x hx =>
    ho x (by simp [hop, Op.operands, Call.operands, hb]; exact Array.mem_toList_iff.1 hx)
  have arr : ∀ {α : Type} {xs : Array α} {l : List α}, xs.toList = l → xs = l.toArray := fun h => by rw [← h]
  unfold builtinU at h
  split at h
  · -- append
    split at h
    · rename_i t xt b0 o0 n0 z0 x ht hx
      obtain ⟨y1, ys, hy, e1, e2⟩ := List.map_eq_cons_iff.1 hx
      obtain ⟨y2, rfl, rfl⟩ := List.map_eq_singleton_iff.1 e2
      have ht := arr ht
      have hy' := arr hy
      obtain ⟨i, hi, h⟩ := Option.bind_eq_some_iff.1 h
      obtain ⟨xi, hxi, h⟩ := Option.bind_eq_some_iff.1 h
      split at h
      · rename_i et hk
        obtain ⟨ie, hie, h⟩ := Option.bind_eq_some_iff.1 h
        split at h
        · rename_i hz
          simp only [decide_eq_true_eq] at hz
          obtain ⟨m, hm, h⟩ := Option.bind_eq_some_iff.1 h
          obtain ⟨vs, hvs, h⟩ := Option.bind_eq_some_iff.1 h
          obtain ⟨⟨⟨nb, o2, n2⟩, σ2⟩, hT, h⟩ := Option.bind_eq_some_iff.1 h
          unfold Heap.appendT at hT
          split at hT
          · rename_i hty
            obtain ⟨⟨⟨b', o2', n2'⟩, σ'⟩, hq, hT⟩ := Option.bind_eq_some_iff.1 hT
            have core : ∀ (ρ : Mp) (lm : Lp) (A : Act) (w : World), HRel ρ σ w → LRel ρ lm l σ w → (∀ x ∈ o.op.operands.toList, VRel ρ lm (ev T e x) (A.eval x)) →
                ∃ cv w' ρ', (execOp A.eval o).run P w = .ok (.value cv) w' ∧ HRel ρ' σ' w' ∧ LRel ρ' lm l σ' w' ∧ VRel ρ' lm (.slice b' o2' n2' ie.size) cv ∧ Step ρ lm l σ w ρ' lm l σ' w' ∧
                  ∀ nb, b' = some nb → ∃ pl, ρ' nb = some pl ∧ pl.ty = et ∧ pl.off = 0 := fun ρ lm A w hH hL ho => by
              have h1 := hops ho y1 (by rw [hy]; simp)
              have h2 := hops ho y2 (by rw [hy]; simp)
              rw [e1] at h1
              obtain ⟨l1, us, r1, r2, r3, r4, r5⟩ := src_rel (P := P) ok hxi hie hH hL h2 hm (Nat.le_refl _) hvs
              obtain ⟨cv, w', ρ', q1, q2, q3, q4, q5, q6⟩ := append_run (P := P) ok hi hk hie hxi r5 hH hL h1 hz r1 r2 l1 r4 r3 hq o.type
              refine ⟨cv, w', ρ', exec A w cv w' ?_, q2, q3, q4, q5, fun nb hnb => q6 nb hnb fun b1 hb1 => ?_⟩
              · rw [ht, hy']
                simp only [builtin, List.map_toArray, List.map_cons, List.map_nil, Sem.run_bind, q1, Result.andThen_ok, Sem.run_pure]
              · subst hb1
                simp only [Bool.and_eq_true, decide_eq_true_eq] at hty
                obtain ⟨j, hj⟩ := typed_get hty.1
                obtain ⟨_, q, g1, g2, g3, _⟩ := hH.tys j _ _ _ hj
                exact ⟨hty.2, q, g1, g2, g3⟩
            cases b' with
            | some nb' =>
              simp only [Option.some.injEq, Prod.mk.injEq] at hT
              obtain ⟨⟨rfl, rfl, rfl⟩, rfl⟩ := hT
              refine ⟨_, _, _, h, .of_run fun ρ lm A w hH hL ho => ?_⟩
              obtain ⟨cv, w', ρ', q1, q2, q3, q4, q5, q6⟩ := core ρ lm A w hH hL ho
              obtain ⟨pl, p1, p2, p3⟩ := q6 nb' rfl
              obtain ⟨r1, r2, r3⟩ := new_ghost q2 q3 p1 p2 p3 (.inl rfl)
              exact ⟨_, cv, w', ρ', lm, q1, .inl rfl, r1, r2, q4, q5.trans r3, LExt.refl ..⟩
            | none =>
              simp only [Option.some.injEq, Prod.mk.injEq] at hT
              obtain ⟨⟨rfl, rfl, rfl⟩, rfl⟩ := hT
              refine ⟨_, _, _, h, .of_run fun ρ lm A w hH hL ho => ?_⟩
              obtain ⟨cv, w', ρ', q1, q2, q3, q4, q5, _⟩ := core ρ lm A w hH hL ho
              exact ⟨_, cv, w', ρ', lm, q1, .inl rfl, q2, q3, q4, q5, LExt.refl ..⟩
          · cases hT
        · cases h
      · cases h
    · cases h
  · -- unsafeSliceData
    split at h
    · rename_i b0 o0 n0 z0 hx
      obtain ⟨y, hy, e1⟩ := List.map_eq_singleton_iff.1 hx
      have hy' := arr hy
      obtain ⟨p, hp, h⟩ := Option.bind_eq_some_iff.1 h
      refine ⟨_, _, _, h, .pure fun ρ lm A w _ _ ho => ?_⟩
      have h1 := hops ho y (by rw [hy]; simp)
      rw [e1] at h1
      unfold sliceData at hp
      split at hp
      · rename_i b1
        split at hp
        · rename_i hn
          simp only [decide_eq_true_eq] at hn
          injection hp with hp
          subst hp
          simp only [VRel] at h1
          obtain ⟨pl, a, cap, p1, p2, p3, p4, p5⟩ := h1
          obtain ⟨rfl, _⟩ := p5.resolve_left (by omega)
          refine ⟨.pointer (some ⟨pl.blk, pl.off + o0, none⟩), exec A w _ w ?_, by simp only [VRel]; exact ⟨pl, p1, rfl⟩⟩
          rw [hy']
          simp only [List.map_toArray, List.map_cons, List.map_nil, p2]
          show (do pure (Next.value (← Builtin.unsafeSliceData_ _ _ _)) : Sem Next).run P w = _
          simp only [Sem.run_bind, Lib.run_unsafeSliceData_row (P := P) w _ _ _ n0 cap (by omega), Result.andThen_ok, Sem.run_pure]
        · cases hp
      · injection hp with hp
        subst hp
        simp only [VRel] at h1
        obtain ⟨_, rfl, p2⟩ := h1
        refine ⟨.pointer none, exec A w _ w ?_, by simp only [VRel]⟩
        rw [hy']
        simp only [List.map_toArray, List.map_cons, List.map_nil, p2]
        rfl
    · cases h
  · -- unsafeString
    split at h
    · rename_i pt it p n ht hx
      obtain ⟨y1, ys, hy, e1, e2⟩ := List.map_eq_cons_iff.1 hx
      obtain ⟨y2, rfl, e3⟩ := List.map_eq_singleton_iff.1 e2
      have ht := arr ht
      have hy' := arr hy
      obtain ⟨el, hel, h⟩ := Option.bind_eq_some_iff.1 h
      obtain ⟨u1, u2⟩ := ok.byt pt el hel
      obtain ⟨⟨tx, σ2⟩, hT, h⟩ := Option.bind_eq_some_iff.1 h
      unfold Heap.textOf at hT
      split at hT
      · split at hT
        · rename_i hn
          simp only [decide_eq_true_eq] at hn
          subst hn
          simp only [Option.some.injEq, Prod.mk.injEq] at hT
          obtain ⟨rfl, rfl⟩ := hT
          refine ⟨_, _, _, h, .pure fun ρ lm A w _ _ ho => ?_⟩
          have h1 := hops ho y1 (by rw [hy]; simp)
          have h2 := hops ho y2 (by rw [hy]; simp)
          rw [e1] at h1
          rw [e3] at h2
          simp only [VRel] at h1 h2
          refine ⟨.string .empty, exec A w _ w ?_, by simp only [VRel]; rfl⟩
          rw [hy', ht]
          simp only [List.map_toArray, List.map_cons, List.map_nil, h1, h2]
          show (do pure (Next.value (← Builtin.unsafeString_ _ _ _)) : Sem Next).run P w = _
          simp only [Sem.run_bind, Lib.run_unsafeString_none (P := P) w, Result.andThen_ok, Sem.run_pure]
        · cases hT
      · rename_i b1 o1 _
        split at hT
        · rename_i hc
          simp only [Bool.and_eq_true, decide_eq_true_eq] at hc
          obtain ⟨⟨⟨h0, hn⟩, h63⟩, hty⟩ := hc
          split at hT
          · rename_i cs hcell
            split at hT
            · rename_i hle
              simp only [decide_eq_true_eq] at hle
              obtain ⟨bs, hbs, hT⟩ := Option.bind_eq_some_iff.1 hT
              simp only [Option.some.injEq, Prod.mk.injEq] at hT
              obtain ⟨rfl, rfl⟩ := hT
              refine ⟨_, _, _, h, .of_run fun ρ lm A w hH hL ho => ?_⟩
              have h1 := hops ho y1 (by rw [hy]; simp)
              have h2 := hops ho y2 (by rw [hy]; simp)
              rw [e1] at h1
              rw [e3] at h2
              simp only [VRel] at h1 h2
              obtain ⟨pl, p1, p2⟩ := h1
              obtain ⟨j, hj⟩ := typed_get hty
              obtain ⟨_, q, g1, g2, g3, _⟩ := hH.tys j _ _ _ hj
              rw [p1] at g1
              injection g1 with g1
              subst g1
              obtain ⟨x, hx', hB⟩ := hH.blk b1 pl p1
              rw [hcell] at hx'
              injection hx' with hx'
              subst hx'
              obtain ⟨c', ty, fr, a1, a2, a3, a4, a5, a6, a7⟩ := hB
              have hbl : bs.length = n.toNat := by
                have := congrArg List.length (bytesX_get hbs)
                rw [List.length_take, List.length_map] at this
                omega
              have hne : bs ≠ [] := fun e => by rw [e] at hbl; simp at hbl; omega
              have hnl : n = (bs.length : Int) := by omega
              rw [g3, h0] at p2
              have hrun := Lib.run_unsafeString_row (P := P) w pt it o.type el u1 u2 pl.blk c'.size (by simp [World.shape?, a1, a7, g2]) bs hne (by omega) (by omega) (fun k x hk => by
                have hk' := (List.getElem?_eq_some_iff.1 hk).1
                have : cs[k]? = some (.int .u8 (x.toNat : Int)) := by
                  have e := congrArg (fun l : List AVal => l[k]?) (bytesX_get hbs)
                  simp only [List.getElem?_take, List.getElem?_map, hk] at e
                  rw [if_pos (by omega)] at e
                  exact e
                obtain ⟨v, b1', b2'⟩ := a4 k _ this
                simp only [VRel] at b2'
                subst b2'
                rw [g3, Nat.zero_add] at b1'
                rw [add_none, Nat.zero_add]
                simp [World.cell?, a1, b1'])
              obtain ⟨f1, f2, f3, f4, f5⟩ := freeze_heap w ⟨pl.blk, 0, none⟩ bs.length
              obtain ⟨r1, r2, r3⟩ := turn_block hH hL b1 pl _ (.row [] .dead) p1 hcell rfl (w' := w.freeze ⟨pl.blk, 0, none⟩ bs.length) trivial (.inr rfl) f1 f2 f3 f4 f5
              refine ⟨_, .string ⟨bs.toArray⟩, _, ρ, lm, exec A w _ _ ?_, .inl rfl, r1, r2, by simp only [VRel], r3, LExt.refl ..⟩
              rw [hy', ht]
              simp only [List.map_toArray, List.map_cons, List.map_nil, p2, h2, hnl]
              show (do pure (Next.value (← Builtin.unsafeString_ _ _ _)) : Sem Next).run P w = _
              simp only [Sem.run_bind, hrun, Result.andThen_ok, Sem.run_pure]
            · cases hT
          · cases hT
        · cases hT
    · cases h
  · exact snd_builtin ok hop hb h
end
end Go.Abs
namespace Go.Abs
open Go

theorem bytesOf_some : ∀ {cs : List AVal} {bs : List UInt8}, bytesOf cs = some bs → ∃ xs : List Int, cs = xs.map (.int .u8) ∧ bs = xs.map (fun n => UInt8.ofNat n.toNat)
  | [], bs, h => by simp only [bytesOf, Option.some.injEq] at h; subst h; exact ⟨[], rfl, rfl⟩
  | c :: cs, bs, h => by
    unfold bytesOf at h
    split at h
    · rename_i heq; cases heq
    · rename_i n r heq
      injection heq with e1 e2
      subst e1; subst e2
      obtain ⟨l, hl, rfl⟩ := Option.map_eq_some_iff.1 h
      obtain ⟨xs, rfl, rfl⟩ := bytesOf_some hl
      exact ⟨n :: xs, rfl, rfl⟩
    · cases h
theorem runesIn_some : ∀ {cs : List AVal} {rs : List Int}, runesIn cs = some rs → cs = rs.map (.int .i32)
  | [], bs, h => by simp only [runesIn, Option.some.injEq] at h; subst h; rfl
  | c :: cs, bs, h => by
    unfold runesIn at h
    split at h
    · rename_i heq; cases heq
    · rename_i n r heq
      injection heq with e1 e2
      subst e1; subst e2
      obtain ⟨l, hl, rfl⟩ := Option.map_eq_some_iff.1 h
      rw [runesIn_some hl]
      rfl
    · cases h

theorem runesFrom_runesA (s : ByteArray) : ∀ (n i : Nat) (acc : Array Value), Conv.runesFrom s n i acc = acc ++ ((runesA s n i).map (Value.int .i32)).toArray
  | 0, _, acc => by simp [Conv.runesFrom, runesA]
  | n + 1, i, acc => by
    unfold Conv.runesFrom runesA
    split
    · simp only []
      rw [runesFrom_runesA s n]
      simp
    · simp
theorem runesA_length (s : ByteArray) : ∀ (n i : Nat), (runesA s n i).length ≤ n
  | 0, _ => by simp [runesA]
  | n + 1, i => by
    unfold runesA
    split
    · have := runesA_length s n (i + (Utf8.decode s i).2); simp; omega
    · simp

section
variable {P : Program} {T : Tab} {R : Type} {o : Oper} {e : Env} {l : Locs} {σ : Heap} {k : AVal → Locs → Heap → Option R} {r : R}

/-- A row of numbers, on both sides. -/
theorem nums_rel {ρ : Mp} {lm : Lp} {w : World} (hH : HRel ρ σ w) {kd : IntKind} {b : Option Nat} {o' n z : Nat} {xs : List Int} (h : σ.read b o' n 1 = some (xs.map (.int kd))) {v : Value} (hv : VRel ρ lm (.slice b o' n z) v) :
    (b = none ∧ xs = [] ∧ v = .slice none 0 0) ∨ ∃ a cap, v = .slice (some a) n cap ∧ xs.length = n ∧ (n = 0 ∨ a.spot = none) ∧ ∀ i, i < n → w.cell? ⟨a.block, a.off + i, none⟩ = some (.int kd (xs.getD i 0)) := by
  unfold Heap.read at h
  cases b with
  | none =>
    left
    simp only [Option.some.injEq] at h
    simp only [VRel] at hv
    obtain ⟨_, rfl, rfl⟩ := hv
    exact ⟨rfl, by cases xs with | nil => rfl | cons a b => simp at h, rfl⟩
  | some b =>
    right
    obtain ⟨cs', h1, h2⟩ := Option.bind_eq_some_iff.1 h
    split at h2
    · rename_i hl
      injection h2 with h2
      obtain ⟨pl, a, cap, hp, rfl, h4, h5, h6⟩ := by simpa only [VRel] using hv
      obtain ⟨c, ty, fr, g1, g2, g3, g4, g6⟩ := row_rel hH hp h1
      have hlen : xs.length = n := by
        have := congrArg List.length h2
        simp at this
        omega
      refine ⟨a, cap, rfl, hlen, ?_, fun i hi => ?_⟩
      · rcases h6 with h6 | ⟨rfl, _⟩
        · left; omega
        · right; rfl
      · rcases h6 with h6 | ⟨rfl, _⟩
        · omega
        · have hml : o' + i < cs'.length := by omega
          obtain ⟨u, e1, r1⟩ := g4 (o' + i) cs'[o' + i] (by simp [hml])
          have hx : cs'[o' + i] = .int kd (xs.getD i 0) := by
            have := congrArg (fun q : List AVal => q[i]?) h2
            simp only [List.getElem?_map] at this
            rw [List.getElem?_take, if_pos (by omega), List.getElem?_drop, List.getElem?_eq_getElem hml, List.getElem?_eq_getElem (by omega)] at this
            simp only [Option.map_some, Option.some.injEq] at this
            rw [this]
            simp [List.getD, List.getElem?_eq_getElem (show i < xs.length by omega)]
          rw [hx] at r1
          simp only [VRel] at r1
          subst r1
          simp only [World.cell?, g1, Nat.add_assoc]
          exact e1
    · cases h2

theorem bytesWorld_heap (w : World) (t : TypeId) (s : ByteArray) : (Lib.bytesWorld w t s).heap = w.heap.push (.cells (Lib.bytesCells w t s) t ((Lib.bytesCells w t s).size, (Lib.bytesCells w t s).size + 1)) := by
  apply Array.ext_getElem?
  intro j
  rcases Nat.lt_trichotomy j w.heap.size with h | h | h
  · rw [Lib.bytesWorld_at_old w t s j h, Array.getElem?_push, if_neg (by omega)]
  · subst h
    rw [Lib.bytesWorld_at_new, Array.getElem?_push, if_pos rfl]
  · rw [Array.getElem?_eq_none (by rw [Lib.bytesWorld_size]; omega), Array.getElem?_eq_none (by simp; omega)]

theorem run_runes_any (w : World) (src dst t : TypeId) (s : ByteArray) {u : TypeDesc} (hs : P.underlying src = some u) (hd : P.underlying dst = some (.slice t)) (he : P.underlying t = some (.int .i32)) :
    (convert src dst (.string s)).run P w = .ok (.slice (some ⟨w.heap.size, 0, none⟩) (Conv.runesFrom s s.size 0 #[]).size (grownCap w (Conv.runesFrom s s.size 0 #[]).size 0 t))
      (w.drew.alloc (.cells (Conv.runesFrom s s.size 0 #[] ++ Array.replicate (grownCap w (Conv.runesFrom s s.size 0 #[]).size 0 t - (Conv.runesFrom s s.size 0 #[]).size) (.int .i32 0)) t)) := by
  simp [convert, run_underlying hs, run_underlying hd, run_underlying he, Conv.stringToRunes, Question.forced, newRow, grownCap]

theorem run_getObj_any {w : World} {r : Nat} {m : Option Nat} {s : Nat} {n : Array Nat} {t : Nat} (h : w.heap[r]? = some (.mapIter m s n t)) : (getObj r).run P w = .ok (.mapIter m s n t) w := by simp [getObj, Sem.run, h]
theorem run_getObj_iter {w : World} {r : Nat} {s : ByteArray} {p : Nat} (h : w.heap[r]? = some (.stringIter s p)) : (getObj r).run P w = .ok (.stringIter s p) w := by simp [getObj, Sem.run, h]
theorem run_setObj_iter {w : World} {r : Nat} {s : ByteArray} {p : Nat} (h : w.heap[r]? = some (.stringIter s p)) (x : Obj) : (setObj r x).run P w = .ok () { w with heap := w.heap.setIfInBounds r x } := by simp [setObj, Sem.run, h]

theorem Unfrozen.mark {fr : Nat × Nat} {n : Nat} (h : Unfrozen fr n) : Unfrozen (if fr.1 == fr.2 then (n, n + 1) else (min fr.1 n, max fr.2 (n + 1))) n := by
  obtain ⟨h0, h⟩ := h
  have h1 := h fr.1
  split
  · exact ⟨by simp only; omega, fun j hj => by simp only; omega⟩
  · rename_i hne
    simp only [beq_iff_eq] at hne
    exact ⟨by simp only; omega, fun j hj => by simp only; omega⟩
theorem snd_same (ok : TabOK P T) {src dst : TypeId} {x : Operand} (hop : o.op = .convert src dst x) (hsd : src = dst) {b o' n z : Nat} (hx : ev T e x = .slice (some b) o' n z)
    {i : TI} (hi : T.ti src = some i) {et : TypeId} (hk : i.kind = .slice et) (h : ((T.ti et).bind fun ie => match ie.agg, ie.shape, decide (z = 1) with
          | false, [.int .u8], true => bif decide (0 < n) then (σ.rwRow b).bind fun _ => k (.slice (some b) o' n z) l σ else none
          | _, _, _ => none) = some r) : Snd P T o e l σ k r := by
  subst hsd
  obtain ⟨inf, d, zv, ti⟩ := ok.tis hi
  · obtain ⟨rfl, _, _⟩ := ti.slice hk
    obtain ⟨ie, hie, h⟩ := Option.bind_eq_some_iff.1 h
    obtain ⟨infe, de, ze, tie⟩ := ok.tis hie
    split at h
    · rename_i ha hs hz
      obtain rfl := tie.int hs ha
      by_cases hn : 0 < n
      case neg => simp [hn] at h
      simp only [hn, decide_true, cond_true] at h
      obtain ⟨_, hrw, h⟩ := Option.bind_eq_some_iff.1 h
      obtain ⟨cs, hb⟩ : ∃ cs, σ[b]? = some (.row cs .rw) := by
        unfold Heap.rwRow at hrw
        split at hrw
        · rename_i cs hb; exact ⟨cs, hb⟩
        · cases hrw
      refine ⟨_, _, _, h, .of_run fun ρ lm A w hH hL ho => ?_⟩
      have h1 := ho x (by simp [hop, Op.operands])
      rw [hx] at h1
      simp only [VRel] at h1
      obtain ⟨pl, a, cap, hp, hv, g1, g2, g3⟩ := h1
      rcases g3 with g3 | ⟨rfl, g3⟩
      · omega
      obtain ⟨y, hy, hB⟩ := hH.blk b pl hp
      rw [hb] at hy
      injection hy with hy
      subst hy
      obtain ⟨c, ty, fr, k1, k2, k3, k4, k5, k6⟩ := hB
      have hsh : w.shape? pl.blk = some (ty, c.size) := by simp [World.shape?, k1]
      have hf : (w.freeze ⟨pl.blk, c.size, none⟩ 1).heap[pl.blk]? = some (.cells c ty (if fr.1 == fr.2 then (c.size, c.size + 1) else (min fr.1 c.size, max fr.2 (c.size + 1)))) := by
        simp only [World.freeze, if_neg (show ¬ (1 = 0) by omega), Array.getElem?_modify, if_pos, k1]
        rfl
      obtain ⟨q1, q2, q3⟩ := turn_block (w' := w.freeze ⟨pl.blk, c.size, none⟩ 1) hH hL b pl _ (.row cs .rw) hp hb rfl ⟨c, ty, _, hf, k2, k3, k4, fun _ => (k5 rfl).mark, k6⟩ (.inl rfl) rfl rfl rfl (by simp [World.freeze]) (fun j hj => by simp only [World.freeze, if_neg (show ¬ (1 = 0) by omega), Array.getElem?_modify, if_neg (Ne.symm hj)])
      have he : σ.set b (.row cs .rw) = σ := by
        refine List.ext_getElem? fun i => ?_
        by_cases e : i = b
        · subst e; rw [hb, List.getElem?_set_self (List.getElem?_eq_some_iff.1 hb).1]
        · rw [List.getElem?_set_ne (Ne.symm e)]
      rw [he] at q1 q2 q3
      refine ⟨_, A.eval x, _, ρ, lm, ?_, .inl rfl, q1, q2, ?_, q3, LExt.refl ..⟩
      · have hr : (convert src src (A.eval x)).run P w = .ok (A.eval x) (w.freeze ⟨pl.blk, c.size, none⟩ 1) := by
          rw [hv]
          simp [convert, run_underlying ti.und, run_underlying tie.und, markStringish, hsh]
        simp only [execOp, hop, Sem.run_bind, hr, Result.andThen_ok, Sem.run_pure]
      · rw [hv]
        simp only [VRel]
        exact ⟨pl, _, cap, hp, rfl, g1, g2, .inr ⟨rfl, g3⟩⟩
    · cases h

theorem snd_convert (ok : TabOK P T) {src dst : TypeId} {x : Operand} (hop : o.op = .convert src dst x)
    (h : ((T.ti src).bind fun si => (T.ti dst).bind fun di => convC T (decide (src = dst)) si di (ev T e x) l σ k) = some r) : Snd P T o e l σ k r := by
  rw [Option.bind_eq_some_iff] at h
  obtain ⟨si, hsi, h⟩ := h
  rw [Option.bind_eq_some_iff] at h
  obtain ⟨di, hdi, h⟩ := h
  obtain ⟨inf, d, z, ti⟩ := ok.tis hsi
  obtain ⟨inf', d', z', ti'⟩ := ok.tis hdi
  have exec : ∀ (A : Act) (w : World), (execOp A.eval o).run P w = ((convert src dst (A.eval x)).run P w).andThen fun v w => .ok (.value v) w := fun A w => by
    simp only [execOp, hop, Sem.run_bind]
    congr
  unfold convC at h
  split at h
  · -- a number to a number
    rename_i kd kd' n ha hs hx
    obtain rfl := ti'.int hs ha
    refine ⟨_, _, _, h, .pure fun ρ lm A w _ _ ho => ⟨.int kd (kd.wrap n), ?_, by simp [VRel]⟩⟩
    have h1 := ho x (by simp [hop, Op.operands])
    rw [hx] at h1
    simp only [VRel] at h1
    have hk : P.intKind dst = kd := by simp [Program.intKind, ti'.und]
    have := run_convert_int (P := P) w src dst kd' n (by rw [ti.und]; rfl) (by rw [ti'.und, hk])
    rw [hk] at this
    rw [exec, h1, this]
    rfl
  · rename_i kd' n ha hs hx
    obtain rfl := ti'.str hs ha
    refine ⟨_, _, _, h, .pure fun ρ lm A w _ _ ho => ⟨.string (Utf8.encode n), ?_, by simp [VRel]⟩⟩
    have h1 := ho x (by simp [hop, Op.operands])
    rw [hx] at h1
    simp only [VRel] at h1
    rw [exec, h1, run_convert_int_string (P := P) w src dst kd' n (by rw [ti.und]; rfl) ti'.und]
    rfl
  · rename_i kd' n ha hs hx
    have hu := ti'.f64 hs ha
    refine ⟨_, _, _, h, .pure fun ρ lm A w _ _ ho => ⟨.float .f64 (FloatKind.nearest .f64 n), ?_, by simp [VRel]⟩⟩
    have h1 := ho x (by simp [hop, Op.operands])
    rw [hx] at h1
    simp only [VRel] at h1
    rw [exec, h1]
    simp [convert, run_underlying ti.und, run_underlying ti'.und, hu, Conv.intToFloat]
  · rename_i kd b ha hs hx
    obtain rfl := ti'.int hs ha
    obtain ⟨n, hn, h⟩ := Option.bind_eq_some_iff.1 h
    refine ⟨_, _, _, h, .pure fun ρ lm A w _ _ ho => ⟨.int kd n, ?_, by simp [VRel]⟩⟩
    have h1 := ho x (by simp [hop, Op.operands])
    rw [hx] at h1
    simp only [VRel] at h1
    unfold f64Int at hn
    split at hn
    · rename_i m hm
      split at hn
      · rename_i hr
        injection hn with hn
        subst hn
        rw [exec, h1]
        simp [convert, run_underlying ti.und, run_underlying ti'.und, Conv.floatToInt, hm, hr]
      · cases hn
    · cases hn
  · rename_i s ha hs hx
    obtain rfl := ti'.str hs ha
    refine ⟨_, _, _, h, .pure fun ρ lm A w _ _ ho => ⟨.string s, ?_, by simp [VRel]⟩⟩
    have h1 := ho x (by simp [hop, Op.operands])
    rw [hx] at h1
    simp only [VRel] at h1
    rw [exec, h1]
    simp [convert, run_underlying ti.und, run_underlying ti'.und]
  · rename_i b o' n z0 ha hs hx
    obtain rfl := ti'.str hs ha
    split at h
    · rename_i et hk
      obtain ⟨rfl, _, _⟩ := ti.slice hk
      rw [Option.bind_eq_some_iff] at h
      obtain ⟨ie, hie, h⟩ := h
      obtain ⟨inf2, d2, z2, ti2⟩ := ok.tis hie
      split at h
      · rename_i ha2 hs2
        obtain rfl := ti2.int hs2 ha2
        rw [Option.bind_eq_some_iff] at h
        obtain ⟨cs, hcs, h⟩ := h
        rw [Option.bind_eq_some_iff] at h
        obtain ⟨bs, hbs, h⟩ := h
        obtain ⟨xs, rfl, rfl⟩ := bytesOf_some hbs
        refine ⟨_, _, _, h, .pure fun ρ lm A w hH _ ho => ⟨.string (strOfNums xs), ?_, by simp only [VRel]; rfl⟩⟩
        have h1 := ho x (by simp [hop, Op.operands])
        rw [hx] at h1
        rw [exec]
        rcases nums_rel hH hcs h1 with ⟨_, rfl, h2⟩ | ⟨a, cap, h2, hl, hsp, hc⟩
        · rw [h2, run_convert_bytes_nil w src et ti.und ti2.und 0 0 dst ti'.und]
          rfl
        · rcases Nat.eq_zero_or_pos n with h0 | h0
          · subst h0
            obtain rfl : xs = [] := List.eq_nil_of_length_eq_zero hl
            rw [h2, run_convert_bytes_string w src dst et _ 0 cap ti.und ti2.und ti'.und, run_bytesToString w _ 0 cap [] (by simp [loadCells, loadCellsFrom])]
            rfl
          · obtain ⟨ab, ao, as⟩ := a
            obtain rfl : as = none := hsp.resolve_left (by omega)
            rw [h2, run_convert_bytes_arg w src et ti.und ti2.und ab ao n cap xs hl hc dst ti'.und]
            rfl
      · rename_i ha2 hs2
        obtain rfl := ti2.int hs2 ha2
        rw [Option.bind_eq_some_iff] at h
        obtain ⟨cs, hcs, h⟩ := h
        rw [Option.bind_eq_some_iff] at h
        obtain ⟨rs, hrs, h⟩ := h
        obtain rfl := runesIn_some hrs
        refine ⟨_, _, _, h, .pure fun ρ lm A w hH _ ho => ⟨.string (encodeAll rs), ?_, by simp only [VRel]⟩⟩
        have h1 := ho x (by simp [hop, Op.operands])
        rw [hx] at h1
        rw [exec]
        rcases nums_rel hH hcs h1 with ⟨_, rfl, h2⟩ | ⟨a, cap, h2, hl, hsp, hc⟩
        · rw [h2, run_convert_runes_nil w src dst et 0 0 ti.und ti2.und ti'.und]
          rfl
        · rcases Nat.eq_zero_or_pos n with h0 | h0
          · subst h0
            obtain rfl : rs = [] := List.eq_nil_of_length_eq_zero hl
            rw [h2, run_convert_runes_string w src dst et _ 0 cap ti.und ti2.und ti'.und, run_runesToString w _ 0 cap [] (by simp [loadCells, loadCellsFrom])]
            rfl
          · obtain ⟨ab, ao, as⟩ := a
            obtain rfl : as = none := hsp.resolve_left (by omega)
            rw [h2, run_convert_runes w src dst et ⟨ab, ao, none⟩ n cap rs (by omega) ti.und ti2.und ti'.und (fun j hj => by
              have hplain : (⟨ab, ao, none⟩ : Addr).add j = ⟨ab, ao + j, none⟩ := by unfold Addr.add; split <;> simp_all
              rw [hplain, hc j (by omega)])]
            rw [List.take_of_length_le (by omega)]
            rfl
      · cases h
    · cases h
  · rename_i z0 s ha hs hx
    split at h
    · rename_i et hk
      obtain ⟨rfl, _, _⟩ := ti'.slice hk
      rw [Option.bind_eq_some_iff] at h
      obtain ⟨ie, hie, h⟩ := h
      obtain ⟨inf2, d2, z2, ti2⟩ := ok.tis hie
      split at h
      · rename_i ha2 hs2
        obtain rfl := ti2.int hs2 ha2
        split at h
        · rename_i hsz
          simp only [decide_eq_true_eq] at hsz
          refine ⟨_, _, _, h, .of_run fun ρ lm A w hH hL ho => ?_⟩
          have h1 := ho x (by simp [hop, Op.operands])
          rw [hx] at h1
          simp only [VRel] at h1
          have c1 := grownCap_ge w s.size 0 et
          have c2 : grownCap w s.size 0 et ≤ 9223372036854775807 := (choose_cap w s.size 0 et hsz).2
          have hcs : (Lib.bytesCells w et s).size = grownCap w s.size 0 et := by
            simp [Lib.bytesCells]
            omega
          obtain ⟨q1, q2, q3⟩ := new_block (w' := Lib.bytesWorld w et s) hH hL _ (.row (s.data.toList.map fun b => .int .u8 b.toNat) .rw) (Lib.bytesCells w et s).size et rfl rfl rfl (bytesWorld_heap w et s)
            ⟨_, _, _, Lib.bytesWorld_at_new w et s, rfl, by simp [Lib.bytesCells], fun j y hy => by
              rw [List.getElem?_map] at hy
              obtain ⟨b, hb, rfl⟩ := Option.map_eq_some_iff.1 hy
              have hj := (List.getElem?_eq_some_iff.1 hb).1
              refine ⟨.int .u8 b.toNat, ?_, by simp [VRel]⟩
              simp only [Lib.bytesCells, Nat.zero_add]
              rw [Array.getElem?_append_left (by simpa using hj)]
              simp at hb
              simp [hb], fun _ => ⟨by simp, fun j hj hf => by simp only [] at hf; omega⟩, Ones.at (fun v hv => by
              simp only [Lib.bytesCells, Array.toList_append, List.mem_append, Array.toList_map, List.mem_map, Array.toList_replicate, List.mem_replicate] at hv
              rcases hv with ⟨_, _, rfl⟩ | ⟨_, rfl⟩ <;> rfl) _ _ _, rfl⟩ rfl
          refine ⟨_, .slice (some ⟨w.heap.size, 0, none⟩) s.size (grownCap w s.size 0 et), _, _, lm, ?_, .inl rfl, q1, q2, ?_, q3, LExt.refl ..⟩
          · rw [exec, h1, Lib.run_convert_string_bytes (P := P) w src dst et s ti.und ti'.und ti2.und]
            rfl
          · simp only [VRel]
            exact ⟨_, _, _, upd_same _ _ _, rfl, c1, c2, .inr ⟨rfl, by rw [hcs]; simp⟩⟩
        · cases h
      · rename_i ha2 hs2
        obtain rfl := ti2.int hs2 ha2
        split at h
        · rename_i hsz
          simp only [decide_eq_true_eq] at hsz
          refine ⟨_, _, _, h, .of_run fun ρ lm A w hH hL ho => ?_⟩
          have h1 := ho x (by simp [hop, Op.operands])
          rw [hx] at h1
          simp only [VRel] at h1
          have hrl := runesA_length s s.size 0
          have hrf := runesFrom_runesA s s.size 0 #[]
          simp only [Array.empty_append] at hrf
          have hrs : (Conv.runesFrom s s.size 0 #[]).size = (runesA s s.size 0).length := by rw [hrf]; simp
          have run := run_runes_any (P := P) w src dst et s ti.und ti'.und ti2.und
          rw [hrs] at run
          have c1 := grownCap_ge w (runesA s s.size 0).length 0 et
          have c2 : grownCap w (runesA s s.size 0).length 0 et ≤ 9223372036854775807 := (choose_cap w (runesA s s.size 0).length 0 et (by omega)).2
          rw [hrf] at run
          have hrel : ∀ xs : List Int, VRels ρ noL (xs.map fun n => AVal.int .i32 n) (xs.map (Value.int .i32)) := fun xs => by
            induction xs with
            | nil => simp [VRels]
            | cons a as ih => simp only [List.map_cons, VRels]; exact ⟨_, _, rfl, by simp [VRel], ih⟩
          obtain ⟨q1, q2, q3⟩ := new_row (drew_rel hH) (drew_lrel hL) ((runesA s s.size 0).map fun n => .int .i32 n) (((runesA s s.size 0).map (Value.int .i32)).toArray ++ Array.replicate (grownCap w (runesA s s.size 0).length 0 et - (runesA s s.size 0).length) (.int .i32 0)) et (by
            simp only [Array.toList_append]
            rw [List.take_left' (by simp)]
            exact hrel _) (by simp) (by
            intro v hv
            simp only [Array.toList_append, List.mem_append, List.mem_map, Array.toList_replicate, List.mem_replicate] at hv
            rcases hv with ⟨_, _, rfl⟩ | ⟨_, rfl⟩ <;> rfl)
          refine ⟨_, .slice (some ⟨w.heap.size, 0, none⟩) (runesA s s.size 0).length (grownCap w (runesA s s.size 0).length 0 et), _, _, lm, ?_, .inl rfl, q1, q2, ?_, (drew_step ρ lm l σ w).trans q3, LExt.refl ..⟩
          · rw [exec, h1, run]
            rfl
          · simp only [VRel]
            refine ⟨_, _, _, upd_same _ _ _, rfl, c1, c2, .inr ⟨rfl, ?_⟩⟩
            simp
            omega
        · cases h
      · cases h
    · cases h
  · rename_i b o' n z ha hs hx
    split at h
    · rename_i et hsm hk
      obtain rfl : src = dst := by simpa using hsm
      exact snd_same ok hop rfl hx hdi hk h
    · cases h
  · cases h

theorem snd_range (ok : TabOK P T) {t : TypeId} {x : Operand} (hop : o.op = .range t x) (h : ((T.ti t).bind fun i => match i.agg, i.shape, ev T e x with
      | false, [.str], .str s => match o.dst with
        | some d => match l[d]? with
          | some .none => k (.lptr d 0) (l.set d (.iter s 0)) σ
          | _ => none
        | none => none
      | false, [.map], .map b => (σ.entries b).bind fun es => (mapEmpty es).bind fun _ => match o.dst with
        | some d => match l[d]? with
          | some .none => k (.lptr d 0) (l.set d (.miter b)) σ
          | _ => none
        | none => none
      | _, _, _ => none) = some r) : Snd P T o e l σ k r := by
  rw [Option.bind_eq_some_iff] at h
  obtain ⟨i, hi, h⟩ := h
  obtain ⟨inf, d', z, ti⟩ := ok.tis hi
  split at h
  · rename_i s ha hs hx
    obtain rfl := ti.str hs ha
    split at h
    · rename_i d hd
      split at h
      · rename_i hl
        refine ⟨_, _, _, h, .of_run fun ρ lm A w hH hL ho => ?_⟩
        have h1 := ho x (by simp [hop, Op.operands])
        rw [hx] at h1
        simp only [VRel] at h1
        have hn : lm d = none := by
          cases h : lm d with
          | none => rfl
          | some k' =>
            have := (hL.loc d k' h).2
            simp [List.getD, hl, LOne] at this
        obtain ⟨q1, q2, q3⟩ := new_local (w' := w.alloc (.stringIter s 0)) hH hL (.stringIter s 0) (.iter s 0) d hn (List.getElem?_eq_some_iff.1 hl).1 rfl rfl rfl rfl (by
          simp only [LOne]; exact alloc_get w _)
        refine ⟨_, .pointer (some ⟨w.heap.size, 0, none⟩), _, ρ, _, ?_, .inl rfl, q1, q2, ?_, q3, ?_⟩
        · simp only [execOp, hop, h1, Instr.range, Sem.run_bind, ti.run_underlying, Result.andThen_ok, Sem.run_pure, run_newObj]
          rfl
        · simp only [VRel]
          exact ⟨_, upd_same _ _ _, rfl⟩
        · refine ⟨upd_ext _ hn, fun t k h0 h1 => ?_⟩
          by_cases e : t = d
          · subst e; rw [upd_same] at h1; injection h1 with h1; exact ⟨hd, hl, by omega⟩
          · rw [upd_ne _ _ e, h0] at h1; cases h1
      · cases h
    · cases h
  · rename_i b ha hs hx
    obtain ⟨kt, et, rfl⟩ := ti.mapS hs ha
    obtain ⟨es, he, h⟩ := Option.bind_eq_some_iff.1 h
    obtain ⟨_, hem, h⟩ := Option.bind_eq_some_iff.1 h
    split at h
    · rename_i d hd
      split at h
      · rename_i hl
        refine ⟨_, _, _, h, .of_run fun ρ lm A w hH hL ho => ?_⟩
        have h1 := ho x (by simp [hop, Op.operands])
        rw [hx] at h1
        have hn : lm d = none := by
          cases h : lm d with
          | none => rfl
          | some k' =>
            have := (hL.loc d k' h).2
            simp [List.getD, hl, LOne] at this
        have hl' := (List.getElem?_eq_some_iff.1 hl).1
        have fin : ∀ (it : Obj), LOne ρ w.heap.size (w.alloc it) (.miter b) → (execOp A.eval o).run P w = .ok (.value (.pointer (some ⟨w.heap.size, 0, none⟩))) (w.alloc it) →
            ∃ n cv w' ρ' lm', (execOp A.eval o).run P w = .ok n w' ∧ (n = .value cv ∨ n = .skip ∧ cv = Go.undef) ∧ HRel ρ' σ w' ∧ LRel ρ' lm' (l.set d (.miter b)) σ w' ∧ VRel ρ' lm' (.lptr d 0) cv ∧ Step ρ lm l σ w ρ' lm' (l.set d (.miter b)) σ w' ∧ LExt lm lm' l w o.dst := fun it hi' hr => by
          obtain ⟨q1, q2, q3⟩ := new_local (w' := w.alloc it) hH hL it (.miter b) d hn hl' rfl rfl rfl rfl hi'
          refine ⟨_, .pointer (some ⟨w.heap.size, 0, none⟩), _, ρ, _, hr, .inl rfl, q1, q2, ?_, q3, ?_⟩
          · simp only [VRel]
            exact ⟨_, upd_same _ _ _, rfl⟩
          · refine ⟨upd_ext _ hn, fun t k h0 h1 => ?_⟩
            by_cases e : t = d
            · subst e; rw [upd_same] at h1; injection h1 with h1; exact ⟨hd, hl, by omega⟩
            · rw [upd_ne _ _ e, h0] at h1; cases h1
        rcases entries_rel hH h1 he with ⟨rfl, _, hm⟩ | ⟨b', pl, m, ms, cl, rfl, hp, _, _, hm, hw, _, hM⟩
        · refine fin (.mapIter none 0 #[] 0) ⟨_, _, _, alloc_get w _⟩ ?_
          simp only [execOp, hop, hm, Instr.range, Sem.run_bind, ti.run_underlying, Result.andThen_ok, Sem.run_pure, run_newObj]
          rfl
        · refine fin (.mapIter (some pl.blk) cl #[] cl) ⟨pl, _, _, _, hp, alloc_get w _⟩ ?_
          simp only [execOp, hop, hm, Instr.range, Sem.run_bind, ti.run_underlying, Result.andThen_ok, Sem.run_pure, run_newObj, MapKept.run_getObj_map hw]
          rfl
      · cases h
    · cases h
  · cases h

theorem snd_next {f : FuncId} {isS : Bool} {x : Operand} (hop : o.op = .next x isS) (h : opC T f o.dst o.type (.next x isS) e l σ k = some r) : Snd P T o e l σ k r := by
  simp only [opC] at h
  split at h
  · rename_i t hx
    split at h
    · rename_i s pos hl
      by_cases hp : pos < s.size
      · simp only [hp, decide_true, cond_true] at h
        refine ⟨_, _, _, h, .of_run fun ρ lm A w hH hL ho => ?_⟩
        have h1 := ho x (by simp [hop, Op.operands])
        rw [hx] at h1
        simp only [VRel] at h1
        obtain ⟨k', hk', h1⟩ := h1
        obtain ⟨g1, g2⟩ := hL.loc t k' hk'
        simp only [List.getD, hl, Option.getD_some, LOne] at g2
        obtain ⟨q1, q2, q3⟩ := turn_local (w' := { w with heap := w.heap.setIfInBounds k' (.stringIter s (pos + (Utf8.decode s pos).2)) }) hH hL t k' (.iter s (pos + (Utf8.decode s pos).2)) hk' (List.getElem?_eq_some_iff.1 hl).1 (by simp [List.getD, hl, LBlk.isRO])
          (by simp [LOne, g1]) rfl rfl rfl (by simp) (fun i hi => by simp [Ne.symm hi])
        refine ⟨_, .tuple #[.bool true, goInt pos, .int .i32 (Utf8.decode s pos).1], _, ρ, lm, ?_, .inl rfl, q1, q2, ?_, q3, LExt.refl ..⟩
        · rw [execOp.eq_def]
          simp [hop, h1, Instr.next, run_getObj_iter g2, run_setObj_iter g2, hp]
        · simp only [VRel, VRels]
          exact ⟨_, rfl, _, _, rfl, rfl, _, _, rfl, rfl, _, _, rfl, rfl, rfl⟩
      · simp only [hp, decide_false, cond_false] at h
        refine ⟨_, _, _, h, .pure fun ρ lm A w hH hL ho => ⟨.tuple #[.bool false], ?_, ?_⟩⟩
        · have h1 := ho x (by simp [hop, Op.operands])
          rw [hx] at h1
          simp only [VRel] at h1
          obtain ⟨k', hk', h1⟩ := h1
          obtain ⟨g1, g2⟩ := hL.loc t k' hk'
          simp only [List.getD, hl, Option.getD_some, LOne] at g2
          simp [execOp, hop, h1, Instr.next, run_getObj_iter g2, hp]
        · simp only [VRel, VRels]
          exact ⟨_, rfl, _, _, rfl, rfl, rfl⟩
    · cases h
  · rename_i t hx
    split at h
    · rename_i b hl
      obtain ⟨es, he, h⟩ := Option.bind_eq_some_iff.1 h
      obtain ⟨_, hem, h⟩ := Option.bind_eq_some_iff.1 h
      obtain rfl : es = [] := by
        cases es with
        | nil => rfl
        | cons _ _ => simp [mapEmpty] at hem
      refine ⟨_, _, _, h, .of_run fun ρ lm A w hH hL ho => ?_⟩
      have h1 := ho x (by simp [hop, Op.operands])
      rw [hx] at h1
      simp only [VRel] at h1
      obtain ⟨k', hk', h1⟩ := h1
      obtain ⟨g1, g2⟩ := hL.loc t k' hk'
      simp only [List.getD, hl, Option.getD_some, LOne] at g2
      have hv : VRel ρ lm (.tuple [.bool false]) (.tuple #[.bool false]) := by
        simp only [VRel, VRels]
        exact ⟨_, rfl, _, _, rfl, rfl, rfl⟩
      cases b with
      | none =>
        obtain ⟨a, s, tt, g2⟩ := g2
        exact ⟨_, .tuple #[.bool false], w, ρ, lm, by simp [execOp, hop, h1, Instr.next, run_getObj_any g2], .inl rfl, hH, hL, hv, Step.refl .., LExt.refl ..⟩
      | some b =>
        obtain ⟨pl, a, ss, tt, hp, g2⟩ := g2
        obtain ⟨y, hy, hB⟩ := hH.blk b pl hp
        have hvm : VRel ρ lm (.map (some b)) (.map (some pl.blk)) := by simp only [VRel]; exact ⟨pl, hp, rfl⟩
        rcases entries_rel hH hvm he with ⟨hn, _⟩ | ⟨b', pl', m, ms, cl, hb', hp', _, _, hm, hw, _, hM⟩
        · cases hn
        injection hb' with hb'
        subst hb'
        rw [hp] at hp'
        injection hp' with hp'
        subst hp'
        obtain rfl : ms = #[] := by
          have := hM.1
          simpa using this
        refine ⟨_, .tuple #[.bool false], w, ρ, lm, ?_, .inl rfl, hH, hL, hv, Step.refl .., LExt.refl ..⟩
        simp [execOp, hop, h1, Instr.next, run_getObj_any g2, MapKept.run_getObj_map hw, Question.forced]
    · cases h
  · cases h
end
end Go.Abs
namespace Go.Abs
open Go

section
variable {P : Program} {T : Tab} {R : Type} {o : Oper} {e : Env} {l : Locs} {σ : Heap} {k : AVal → Locs → Heap → Option R} {r : R}

theorem snd_makeMap {t : TypeId} (hop : o.op = .makeMap t none) (h : ((T.ti t).bind fun i => match i.kind with
      | .map _ _ => k (.map (some σ.length)) l (σ ++ [.map [] .rw])
      | _ => none) = some r) : Snd P T o e l σ k r := by
  obtain ⟨i, hi, h⟩ := Option.bind_eq_some_iff.1 h
  split at h
  · refine ⟨_, _, _, h, .of_run fun ρ lm A w hH hL ho => ?_⟩
    obtain ⟨q1, q2, q3⟩ := new_block (w' := w.alloc (.map #[] 0)) hH hL (.map #[] 0) (.map [] .rw) 0 0 rfl rfl rfl rfl ⟨#[], 0, alloc_get w _, MapKept.stamped_empty 0, rfl, fun j k v hj => by simp at hj⟩ rfl
    refine ⟨_, .map (some w.heap.size), _, _, lm, ?_, .inl rfl, q1, q2, ?_, q3, LExt.refl ..⟩
    · simp [execOp, hop, Instr.makeMap]
    · simp only [VRel]
      exact ⟨_, upd_same _ _ _, rfl⟩
  · cases h

theorem cells_list {ρ : Mp} {lm : Lp} {cs : List AVal} {v : Value} (h : VRel ρ lm (.agg cs) v) : ∃ us : List Value, v = .agg us.toArray ∧ VRels ρ lm cs us := by simpa only [VRel] using h

theorem snd_lookup (ok : TabOK P T) {t : TypeId} {x ix : Operand} {cok : Bool} (hop : o.op = .lookup t x ix cok) (h : ((T.ti t).bind fun i => match i.kind, ev T e x with
      | .map kt et, .map b => (keyTy T kt (ev T e ix)).bind fun _ => (T.ti et).bind fun ie =>
        (σ.look b (ev T e ix) (ie.val ie.zeros)).bind fun v => match ie.agg with
          | false => match ie.shape with
            | [s] => s.fetch (some v) fun v => bif cok then (σ.has b (ev T e ix)).bind fun h => k (.tuple [v, .bool h]) l σ else k v l σ
            | _ => none
          | true => (aggOf v).bind fun cs => match decide (cs.length = ie.size) with
            | true => fetches ie.shape (fun j => cs[j]?) 0 fun vs => bif cok then (σ.has b (ev T e ix)).bind fun h => k (.tuple [.agg vs, .bool h]) l σ else k (.agg vs) l σ
            | false => none
      | _, _ => none) = some r) : Snd P T o e l σ k r := by
  obtain ⟨i, hi, h⟩ := Option.bind_eq_some_iff.1 h
  obtain ⟨inf, d, z, ti⟩ := ok.tis hi
  split at h
  · rename_i kt et b hk hx
    obtain ⟨rfl, _, _⟩ := ti.mapK hk
    obtain ⟨_, hq, h⟩ := Option.bind_eq_some_iff.1 h
    obtain ⟨dk, hkey⟩ := keyTy_is ok hq
    obtain ⟨ie, hie, h⟩ := Option.bind_eq_some_iff.1 h
    obtain ⟨infe, de, ze, tie⟩ := ok.tis hie
    obtain ⟨v, hv, h⟩ := Option.bind_eq_some_iff.1 h
    -- what is told of the value
    have tell : ∀ (V : AVal), Refines v V → (bif cok then (σ.has b (ev T e ix)).bind fun h => k (.tuple [V, .bool h]) l σ else k V l σ) = some r → Snd P T o e l σ k r := fun V hV hk' => by
      have base : ∀ (ρ : Mp) (lm : Lp) (A : Act) (w : World), HRel ρ σ w → (∀ x ∈ o.op.operands.toList, VRel ρ lm (ev T e x) (A.eval x)) → ∀ hb, ∃ u ub, (execOp A.eval o).run P w = .ok (.value (if cok then .tuple #[u, .bool ub] else u)) w ∧ VRel ρ lm V u ∧ (σ.has b (ev T e ix) = some hb → hb = ub) := fun ρ lm A w hH ho hb => by
        have h1 := ho x (by simp [hop, Op.operands])
        have h2 := ho ix (by simp [hop, Op.operands])
        rw [hx] at h1
        obtain ⟨u, ub, q1, q2, q3⟩ := lookup_rel (P := P) (hb := hb) hkey hH h1 h2 (tie.val_rel (lm := noL) (vs := ie.zeros) (cs := ze.cells.toList) (by simp [TI.zeros, TI.size]) (tie.rel ρ noL)) ti.und (by
          rw [tie.run_zeroValue]
          congr 1
          have := tie.zagg
          cases ha : ie.agg with
          | true => rw [ha] at this; cases ze <;> simp_all [isAggV, Value.cells]
          | false => rw [ha] at this; cases ze <;> simp_all [isAggV, Value.cells]) hv
        refine ⟨u, ub, ?_, hV ρ lm u (q2.any lm), q3⟩
        simp only [execOp, hop, Sem.run_bind, q1 cok, Result.andThen_ok, Sem.run_pure]
      cases cok with
      | false =>
        refine ⟨_, _, _, hk', .pure fun ρ lm A w hH hL ho => ?_⟩
        obtain ⟨u, ub, q1, q2, _⟩ := base ρ lm A w hH ho true
        exact ⟨u, q1, q2⟩
      | true =>
        obtain ⟨hb, hhb, hk'⟩ := Option.bind_eq_some_iff.1 hk'
        refine ⟨_, _, _, hk', .pure fun ρ lm A w hH hL ho => ?_⟩
        obtain ⟨u, ub, q1, q2, q3⟩ := base ρ lm A w hH ho hb
        refine ⟨_, q1, ?_⟩
        rw [← q3 hhb]
        simp only [if_true, VRel, VRels]
        exact ⟨_, rfl, _, _, rfl, q2, _, _, rfl, rfl, rfl⟩
    split at h
    · split at h
      · obtain ⟨y, V, hy, hV, hk'⟩ := fetch_some h
        injection hy with hy
        subst hy
        exact tell V hV hk'
      · cases h
    · obtain ⟨cs, hcs, h⟩ := Option.bind_eq_some_iff.1 h
      split at h
      · rename_i hl
        simp only [decide_eq_true_eq] at hl
        obtain ⟨zs, hk', hzl, hz⟩ := fetches_some h
        refine tell (.agg zs) (fun ρ lm u hu => ?_) hk'
        cases v <;> simp only [aggOf] at hcs <;> try (cases hcs; done)
        injection hcs with hcs
        subst hcs
        simp only [VRel] at hu ⊢
        obtain ⟨vs, rfl, hvs⟩ := hu
        refine ⟨vs, rfl, VRels.of_get ?_ fun j x hx => ?_⟩
        · have := hvs.length; rw [hzl]; simp only [TI.size] at hl; omega
        · obtain ⟨y, hy, hR⟩ := hz j x hx
          rw [Nat.zero_add] at hy
          obtain ⟨v, e1, h1⟩ := hvs.get j y hy
          exact ⟨v, e1, hR ρ lm v h1⟩
      · cases h
  · cases h

theorem snd_mapUpdate (ok : TabOK P T) {t : TypeId} {x ix y : Operand} (hop : o.op = .mapUpdate t x ix y) (h : ((T.ti t).bind fun i => match i.kind, ev T e x with
      | .map kt _, .map b => (keyTy T kt (ev T e ix)).bind fun _ => match (ev T e y).noLoc with
        | true => (σ.mput b (ev T e ix) (ev T e y)).bind fun σ' => k .void l σ'
        | false => none
      | _, _ => none) = some r) : Snd P T o e l σ k r := by
  obtain ⟨i, hi, h⟩ := Option.bind_eq_some_iff.1 h
  obtain ⟨inf, d, z, ti⟩ := ok.tis hi
  split at h
  · rename_i kt et b hk hx
    obtain ⟨rfl, _, _⟩ := ti.mapK hk
    obtain ⟨_, hq, h⟩ := Option.bind_eq_some_iff.1 h
    obtain ⟨dk, hkey⟩ := keyTy_is ok hq
    split at h
    · rename_i hn
      obtain ⟨σ', hp, h⟩ := Option.bind_eq_some_iff.1 h
      refine ⟨_, _, _, h, .of_run fun ρ lm A w hH hL ho => ?_⟩
      have h1 := ho x (by simp [hop, Op.operands])
      have h2 := ho ix (by simp [hop, Op.operands])
      have h3 := ho y (by simp [hop, Op.operands])
      rw [hx] at h1
      obtain ⟨w', q1, q2, q3, q4⟩ := mput_run (P := P) hkey hH hL h1 h2 (h3.noLoc hn) ti.und hp
      refine ⟨_, Go.undef, w', ρ, lm, ?_, .inr ⟨rfl, rfl⟩, q2, q3, by simp [VRel], q4, LExt.refl ..⟩
      simp [execOp, hop, q1]
    · cases h
  · cases h

theorem opC_sound (ok : TabOK P T) {f : FuncId} {p : Op} (hop : o.op = p) (h : opC T f o.dst o.type p e l σ k = some r) : Snd P T o e l σ k r := by
  cases p
  case next x s => exact snd_next hop h
  all_goals simp only [opC] at h
  all_goals try (cases h; done)
  case move x => exact snd_move hop h
  case assign x => exact snd_assign hop h
  case pick c a b => exact snd_pick hop h
  case alloc t => exact snd_alloc ok hop h
  case box t x => exact snd_box hop h
  case build t ps => exact snd_build ok hop h
  case buildSlice t n ps => exact snd_buildSlice ok hop h
  case load t a => exact snd_load ok hop h
  case store t a x => exact snd_store ok hop h
  case nilCheck x => exact snd_nilCheck hop h
  case binOp op t x y yt => exact snd_binOp ok hop h
  case unOp op t x => exact snd_unOp hop h
  case convert s d x => exact snd_convert ok hop h
  case slice t x lo hi mx => exact snd_slice ok hop h
  case fieldAddr s x fd => exact snd_fieldAddr ok hop h
  case field s x fd => exact snd_field ok hop h
  case indexAddr t x ix => exact snd_indexAddr ok hop h
  case index t x ix => exact snd_index ok hop h
  case extract t ix => exact snd_extract hop h
  case makeSlice t n c => exact snd_makeSlice ok hop h
  case makeFunc fn first caps => exact snd_makeFunc hop h
  case makeInterface t x => exact snd_makeIface ok hop h
  case makeMap t hint =>
    cases hint with
    | none => exact snd_makeMap hop h
    | some _ => cases h
  case lookup t x ix cok => exact snd_lookup ok hop h
  case mapUpdate t x ix y => exact snd_mapUpdate ok hop h
  case range t x => exact snd_range ok hop h
  case call c =>
    split at h
    · rename_i b hb
      split at h
      · exact snd_builtin ok hop hb h
      · exact snd_builtinU ok hop hb h
    · cases h

theorem castV_some {t : TypeId} {v : AVal} {k : AVal → Option R} (h : castV T t v k = some r) : ∃ v', k v' = some r ∧ Refines v v' := by
  unfold castV at h
  obtain ⟨i, hi, h⟩ := Option.bind_eq_some_iff.1 h
  split at h
  · split at h
    · obtain ⟨y, z, hy, hz, hk⟩ := fetch_some h
      injection hy with hy
      subst hy
      exact ⟨z, hk, hz⟩
    · cases h
  · split at h
    · rename_i cs
      split at h
      · rename_i hl
        simp only [decide_eq_true_eq] at hl
        obtain ⟨zs, hk, hzl, hz⟩ := fetches_some h
        refine ⟨_, hk, fun ρ lm u hu => ?_⟩
        simp only [VRel] at hu ⊢
        obtain ⟨vs, rfl, hvs⟩ := hu
        refine ⟨vs, rfl, VRels.of_get ?_ fun j x hx => ?_⟩
        · have := hvs.length; rw [hzl]; simp only [TI.size] at hl; omega
        · obtain ⟨y, hy, hR⟩ := hz j x hx
          rw [Nat.zero_add] at hy
          obtain ⟨v, e1, h1⟩ := hvs.get j y hy
          exact ⟨v, e1, hR ρ lm v h1⟩
      · cases h
    · cases h

theorem castVs_some : ∀ {ts : List TypeId} {vs : List AVal} {k : List AVal → Option R}, castVs T ts vs k = some r →
    ∃ vs', k vs' = some r ∧ ∀ (ρ : Mp) (lm : Lp) (us : List Value), VRels ρ lm vs us → VRels ρ lm vs' us
  | [], [], k, h => ⟨[], h, fun _ _ _ h => h⟩
  | [], _ :: _, k, h => by simp [castVs] at h
  | _ :: _, [], k, h => by simp [castVs] at h
  | t :: ts, v :: vs, k, h => by
    simp only [castVs] at h
    obtain ⟨v', h', hR⟩ := castV_some h
    obtain ⟨vs', hk, hRs⟩ := castVs_some h'
    refine ⟨v' :: vs', hk, fun ρ lm us hu => ?_⟩
    simp only [VRels] at hu ⊢
    obtain ⟨u, us', rfl, h1, h2⟩ := hu
    exact ⟨u, us', rfl, hR ρ lm u h1, hRs ρ lm us' h2⟩

theorem castR_some {t : TypeId} {v : AVal} {k : AVal → Option R} (h : castR T t v k = some r) : ∃ v', k v' = some r ∧ Refines v v' := by
  unfold castR at h
  split at h
  · exact castV_some h
  · split at h
    · obtain ⟨vs', hk, hR⟩ := castVs_some h
      refine ⟨_, hk, fun ρ lm u hu => ?_⟩
      simp only [VRel] at hu ⊢
      obtain ⟨us, rfl, h1⟩ := hu
      exact ⟨us, rfl, hR ρ lm us h1⟩
    · cases h

/-! ### Calls -/
/-- What a call of a function is to be. -/
def CallOK (P : Program) (T : Tab) (g : FuncId) (xs : List AVal) (σ : Heap) (v : AVal) (σ' : Heap) : Prop :=
  ∀ (ρ : Mp) (ws : List Value) (w : World), HRel ρ σ w → GRel T ρ → VRels ρ noL xs ws →
    Calls P g ws.toArray w fun e w' => ∃ cv ρ', e = .returned cv ∧ HRel ρ' σ' w' ∧ VRel ρ' noL v cv ∧ Step ρ noL [] σ w ρ' noL [] σ' w'
def CallFOK (P : Program) (T : Tab) (callF : CallF R) : Prop :=
  ∀ (g : FuncId) (xs : List AVal) (σ : Heap) (K : AVal → Heap → Option R) (r : R), callF g xs σ K = some r →
    (∀ (ws : Array Value) (w : World), (callFunc g ws).run P w = .ok (.enter g ws) w) ∧ ∃ v σ', K v σ' = some r ∧ CallOK P T g xs σ v σ'

/-- The frame's own is as it was, behind a call. -/
theorem LRel.after_call {ρ ρ' : Mp} {lm : Lp} {l : Locs} {σ σ' : Heap} {w w' : World} (hL : LRel ρ lm l σ w) (s : Step ρ noL [] σ w ρ' noL [] σ' w') :
    LRel ρ' lm l σ' w' ∧ Step ρ lm l σ w ρ' lm l σ' w' := by
  have live : ∀ b pl x, ρ b = some pl → σ[b]? = some x → x.isRW = true → x.live = true := fun _ _ _ _ _ h => Blk.live_of_isRW h
  refine ⟨⟨fun t k hk => ?_, hL.inj, fun t k b pl x hk hb hx hl => ?_⟩, ?_⟩
  · obtain ⟨h1, h2⟩ := hL.loc t k hk
    refine ⟨Nat.lt_of_lt_of_le h1 s.size, h2.mono s.ext ?_⟩
    exact s.unch k h1 (fun b pl x hb hx hr => hL.apart t k b pl x hk hb hx (Blk.live_of_isRW hr)) (fun t h => by cases h)
  · obtain ⟨h1, _⟩ := hL.loc t k hk
    rcases Blk.live_cases hl with hr | hr
    · rcases s.prov b pl x hb hx hr with hp | ⟨b0, pl0, x0, g1, g2, g3, g4⟩
      · omega
      · rw [← g4]; exact hL.apart t k b0 pl0 x0 hk g1 g2 (Blk.live_of_isRW g3)
    · have hx0 := s.rob b x hx hr
      cases hb0 : ρ b with
      | none =>
        have := s.new b hb0 (by rw [hb]; simp)
        have := (List.getElem?_eq_some_iff.1 hx0).1
        omega
      | some pl0 =>
        have := s.ext b pl0 hb0
        rw [hb] at this
        injection this with this
        subst this
        exact hL.apart t k b pl x hk hb0 hx0 hl
  · exact ⟨s.os, s.tape, s.output, s.size, s.len, s.ext, s.new, fun k hk h1 _ => s.unch k hk h1 (fun t h => by cases h), s.prov, s.ro, s.rob, fun t k hk hr => .inr ⟨t, hk, hr⟩⟩

theorem stepC_sound (ok : TabOK P T) {f : FuncId} {callF : CallF R} (hc : CallFOK P T callF) (h : stepC T f callF o e l σ k = some r) : Snd P T o e l σ k r := by
  unfold stepC at h
  split at h
  · rename_i x args tys hop
    split at h
    · rename_i g caps hx
      split at h
      · rename_i hn
        obtain ⟨hcf, v, σ', h1, hC⟩ := hc _ _ _ _ _ h
        obtain ⟨v', h2, hR⟩ := castR_some h1
        refine ⟨v', l, σ', h2, ?_⟩
        intro ρ lm A w hH hL hG ho next Q hn'
        have hx' := ho x (by simp [hop, Op.operands, Call.operands])
        rw [hx] at hx'
        simp only [VRel] at hx'
        obtain ⟨cv, hcv, hcaps⟩ := hx'
        have hargs : ∀ ys : List Operand, (∀ y ∈ ys, y ∈ args.toList) → VRels ρ lm (ys.map (ev T e)) (ys.map A.eval) := fun ys => by
          induction ys with
          | nil => intro _; simp [VRels]
          | cons y ys ih =>
            intro hy
            simp only [List.map_cons, VRels]
            refine ⟨_, _, rfl, ho y ?_, ih fun z hz => hy z (List.mem_cons_of_mem _ hz)⟩
            have := hy y List.mem_cons_self
            simp [hop, Op.operands, Call.operands]
            simp at this
            simp [this]
        have hall : VRels ρ noL (args.toList.map (ev T e) ++ caps) (args.toList.map A.eval ++ cv) := ((hargs _ fun _ h => h).append hcaps).noLoc hn
        have run : (execOp A.eval o).run P w = .ok (.enter g (args.toList.map A.eval ++ cv).toArray) w := by
          have e1 : (args.toList.map A.eval ++ cv).toArray = args.map A.eval ++ cv.toArray := by
            apply Array.toList_inj.1; simp
          rw [e1]
          simp [execOp, hop, resolve, Deferred.ofValue, hcv, invoke, hcf]
        unfold Oper.wp
        rw [run, Oper.upon_enter]
        refine Calls.mono (hC ρ _ w hH hG hall) fun ex w'' he => ?_
        obtain ⟨cv', ρ', rfl, q1, q2, q3⟩ := he
        obtain ⟨q4, q5⟩ := hL.after_call q3
        exact hn' cv' w'' ρ' lm q1 q4 (hR ρ' lm cv' (q2.mono (fun _ _ h => h) (fun _ _ h => by cases h))) q5 (LExt.refl ..)
      · cases h
    · cases h
  · rename_i x nm args tys hop
    unfold invC at h
    split at h
    · rename_i t v hx
      split at h
      · rename_i g hm
        split at h
        · rename_i hn
          obtain ⟨hcf, v1, σ', h1, hC⟩ := hc _ _ _ _ _ h
          obtain ⟨v', h2, hR⟩ := castR_some h1
          refine ⟨v', l, σ', h2, ?_⟩
          intro ρ lm A w hH hL hG ho next Q hn'
          have hx' := ho x (by simp [hop, Op.operands, Call.operands])
          rw [hx] at hx'
          simp only [VRel] at hx'
          obtain ⟨cv, hcv, hcr⟩ := hx'
          have hargs : ∀ ys : List Operand, (∀ y ∈ ys, y ∈ args.toList) → VRels ρ lm (ys.map (ev T e)) (ys.map A.eval) := fun ys => by
            induction ys with
            | nil => intro _; simp [VRels]
            | cons y ys ih =>
              intro hy
              simp only [List.map_cons, VRels]
              refine ⟨_, _, rfl, ho y ?_, ih fun z hz => hy z (List.mem_cons_of_mem _ hz)⟩
              have := hy y List.mem_cons_self
              simp [hop, Op.operands, Call.operands]
              simp at this
              simp [this]
          have hall : VRels ρ noL (v :: args.toList.map (ev T e)) (cv :: args.toList.map A.eval) := by
            refine VRels.noLoc (lm := lm) hn ?_
            simp only [VRels]
            exact ⟨_, _, rfl, hcr, hargs _ fun _ h => h⟩
          have run : (execOp A.eval o).run P w = .ok (.enter g (cv :: args.toList.map A.eval).toArray) w := by
            have e1 : (cv :: args.toList.map A.eval).toArray = #[cv] ++ args.map A.eval := by
              apply Array.toList_inj.1; simp
            have e2 : (#[A.eval x] ++ args.map A.eval).extract 1 (#[A.eval x] ++ args.map A.eval).size = args.map A.eval := by
              apply Array.toList_inj.1; simp [List.extract_eq_take_drop]; exact List.take_of_length_le (by simp)
            have e3 : (#[A.eval x] ++ args.map A.eval)[0]? = some (.iface t cv) := by rw [hcv, ← Array.getElem?_toList]; simp
            rw [e1]
            simp only [execOp, hop, resolve, Sem.run_bind, Sem.run_pure, Result.andThen_ok, invoke, e3, e2, callMethod, run_program, ok.meth t nm g hm, hcf]
          unfold Oper.wp
          rw [run, Oper.upon_enter]
          refine Calls.mono (hC ρ _ w hH hG hall) fun ex w'' he => ?_
          obtain ⟨cv', ρ', rfl, q1, q2, q3⟩ := he
          obtain ⟨q4, q5⟩ := hL.after_call q3
          exact hn' cv' w'' ρ' lm q1 q4 (hR ρ' lm cv' (q2.mono (fun _ _ h => h) (fun _ _ h => by cases h))) q5 (LExt.refl ..)
        · cases h
      · cases h
    · cases h
  · exact opC_sound ok rfl h
end
end Go.Abs
