/-
Regions in the order of their text.
Regions whose order is the tape's: what one operation does, whichever ran before it.
Regions whose order is the tape's: the invariant.
Regions whose order is the tape's: all orders.
The code of a function; its calls.
-/
import Derived.Test.YtnoplfndpemmpaaGreatDoorMAb
import Derived.Orders
namespace Go.Abs
open Go
variable {ds : List Deferred}

/-- The frame's values, on both sides. -/
structure ARel (ds : List Deferred) (ρ : Mp) (lm : Lp) (e : Env) (a : Act) : Prop where
  size : a.tmps.size = e.length
  val : ∀ t v, a.tmps[t]? = some v → VRel ρ lm (e.getD t .undef) v
  defers : a.defers = ds

structure SRel (T : Tab) (ds : List Deferred) (ρ : Mp) (lm : Lp) (e : Env) (l : Locs) (σ : Heap) (a : Act) (w : World) : Prop where
  act : ARel ds ρ lm e a
  heap : HRel ρ σ w
  loc : LRel ρ lm l σ w
  glob : GRel T ρ

theorem ofConst_rel (ρ : Mp) (lm : Lp) (v : Value) : VRel ρ lm (ofConst v) v := by
  unfold ofConst
  split <;> simp [VRel]

theorem ev_rel {T : Tab} {ρ : Mp} {lm : Lp} {e : Env} {a : Act} (h : ARel ds ρ lm e a) (hg : GRel T ρ) (x : Operand) : VRel ρ lm (ev T e x) (a.eval x) := by
  cases x with
  | tmp t =>
    simp only [ev, Act.eval]
    cases ht : a.tmps[t]? with
    | some v => simpa [Array.getD_eq_getD_getElem?, ht] using h.val t v ht
    | none =>
      have : e.length ≤ t := by
        have := Array.getElem?_eq_none_iff.1 ht
        have := h.size
        omega
      have : e.getD t .undef = .undef := by simp [List.getD, List.getElem?_eq_none this]
      rw [this]
      simp [VRel]
  | const v => exact ofConst_rel ρ lm v
  | global g =>
    simp only [ev, Act.eval]
    split
    · rename_i hgl
      obtain ⟨_, hn⟩ := hg g hgl
      simp only [VRel]
      exact ⟨_, hn, by simp⟩
    · simp [VRel]
  | func f =>
    simp only [ev, Act.eval, VRel, VRels]
    exact ⟨[], rfl, rfl⟩

theorem put_getD (e : Env) (dst : Option Nat) (v : AVal) (t : Nat) : (put e dst v).getD t .undef = if dst = some t ∧ t < e.length then v else e.getD t .undef := by
  cases dst with
  | none => simp [put]
  | some d =>
    simp only [put, List.getD]
    by_cases h : d = t
    · subst h
      by_cases hl : d < e.length
      · simp [hl]
      · simp [hl]
    · simp [h]
theorem put_length (e : Env) (dst : Option Nat) (v : AVal) : (put e dst v).length = e.length := by
  cases dst <;> simp [put]
theorem actput_get (a : Act) (dst : Option Nat) (v : Value) (t : Nat) : (a.put dst v).tmps[t]? = if dst = some t ∧ t < a.tmps.size then some v else a.tmps[t]? := by
  cases dst with
  | none => simp [Act.put]
  | some d =>
    simp only [Act.put]
    by_cases h : d = t
    · subst h
      by_cases hl : d < a.tmps.size
      · simp [hl]
      · simp [hl]
    · simp [h]
theorem actput_size (a : Act) (dst : Option Nat) (v : Value) : (a.put dst v).tmps.size = a.tmps.size := by
  cases dst <;> simp [Act.put]
theorem actput_defers (a : Act) (dst : Option Nat) (v : Value) : (a.put dst v).defers = a.defers := by
  cases dst <;> simp [Act.put]

theorem ARel.put {ρ ρ' : Mp} {lm lm' : Lp} {e : Env} {a : Act} (h : ARel ds ρ lm e a) (hr : ∀ b pl, ρ b = some pl → ρ' b = some pl) (hl : ∀ t k, lm t = some k → lm' t = some k) (dst : Option Nat) {v : AVal} {cv : Value} (hv : VRel ρ' lm' v cv) :
    ARel ds ρ' lm' (put e dst v) (a.put dst cv) where
  size := by rw [actput_size, put_length]; exact h.size
  val := fun t u hu => by
    rw [actput_get] at hu
    rw [put_getD, ← h.size]
    by_cases hc : dst = some t ∧ t < a.tmps.size
    · rw [if_pos hc] at hu ⊢
      injection hu with hu
      subst hu
      exact hv
    · rw [if_neg hc] at hu ⊢
      exact (h.val t u hu).mono hr hl
  defers := by rw [actput_defers]; exact h.defers

/-! ### What a region's operations do, one by one -/
section
variable (P : Program) (T : Tab)

/-- It answers the same in every world. -/
def PureAll (o : Oper) (e : Env) (v : AVal) : Prop :=
  ∀ (ρ : Mp) (lm : Lp) (a : Act), (∀ x ∈ o.op.operands.toList, VRel ρ lm (ev T e x) (a.eval x)) → ∃ cv, (∀ w, (execOp a.eval o).run P w = .ok (.value cv) w) ∧ VRel ρ lm v cv

def StepRel (mk : Oper → Bool) (q hf : Bool) (o : Oper) (e : Env) (l : Locs) (σ : Heap) (v : AVal) (l' : Locs) (σ' : Heap) : Prop :=
  match hf with
  | true => match q with
    | true => OpSound P T o e l σ v l' σ'
    | false => PureAll P T o e v ∧ l' = l ∧ σ' = σ
  | false => match q with
    | false => OpSound P T o e l σ v l' σ'
    | true => ∃ l1 σ1, OpSound P T o e l.frz σ.frz v l1 σ1 ∧ l' = l.back l1 ∧ σ' = σ.back σ1 ∧ (still T o.op = true → l' = l ∧ σ' = σ) ∧ (mk o = true → l' = l)

def Wanted (ops : Array Oper) (o : Oper) (e : Env) : Bool → Prop
  | true => o.guard = none ∨ ∃ g want d, o.guard = some (g, want) ∧ (ops[g]?).bind (·.dst) = some d ∧ e.getD d .undef = .bool want
  | false => ∃ g want, o.guard = some (g, want) ∧ ((ops[g]?).bind (·.dst) = none ∨ ∃ d, (ops[g]?).bind (·.dst) = some d ∧ (e.getD d .undef = .void ∨ e.getD d .undef = .bool (!want)))

def OneStep (mk : Oper → Bool) (ops : Array Oper) (q hf : Bool) (o : Oper) (e : Env) (l : Locs) (σ : Heap) (v : AVal) (l' : Locs) (σ' : Heap) : Prop :=
  (Wanted ops o e true ∧ StepRel P T mk q hf o e l σ v l' σ') ∨ (Wanted ops o e false ∧ v = .void ∧ l' = l ∧ σ' = σ)

/-- What may be read behind a store, till the next bar. -/
structure Hide (l : Locs) (σ : Heap) (l1 : Locs) (σ1 : Heap) (l2 : Locs) (σ2 : Heap) : Prop where
  len1 : σ1.length = σ.length
  len2 : σ2.length = σ.length
  blk : ∀ b : Nat, (σ1[b]? = σ[b]? ∧ σ2[b]? = σ[b]?) ∨ ((∃ cs, σ[b]? = some (.row cs .rw)) ∧ (∃ cs, σ1[b]? = some (.row cs .rw)) ∧ σ2[b]? = some (.row [] .dead))
  loc : ∀ t : Nat, (l1.getD t .none = l.getD t .none ∧ l2.getD t .none = l.getD t .none) ∨ ((∃ cs, l.getD t .none = .cells cs) ∧ (∃ cs, l1.getD t .none = .cells cs) ∧ l2.getD t .none = .hid)
/-- What is read next, and what is pending. -/
def NextP (g s q hf : Bool) (pd : Option (Locs × Heap)) (l : Locs) (σ : Heap) (l1 : Locs) (σ1 : Heap) (l2 : Locs) (σ2 : Heap) (pd2 : Option (Locs × Heap)) : Prop :=
  ((q = true → hf = true → l1 = l ∧ Keep σ σ1 ∧ (g = true → pd = none)) ∧ l2 = l1 ∧ σ2 = σ1 ∧ pd2 = pd) ∨ (q = true ∧ hf = true ∧ pd = none ∧ Hide l σ l1 σ1 l2 σ2 ∧ pd2 = some (l1, σ1) ∧ s = true)
def Trace (mk : Oper → Bool) (ops : Array Oper) : List Oper → List Bool → List Bool → Env → Locs → Heap → Option (Locs × Heap) → Env → Locs → Heap → Prop
  | [], _, _, e, l, σ, pd, e', l', σ' => e' = e ∧ l' = atL false pd l ∧ σ' = atH false pd σ
  | o :: os, qs, hs, e, l, σ, pd, e', l', σ' => ∃ v l1 σ1 l2 σ2 pd2, OneStep P T mk ops (qs.headD false) (hs.headD false) o e (atL (qs.headD false) pd l) (atH (qs.headD false) pd σ) v l1 σ1 ∧
      NextP o.guard.isNone (isStore o.op) (qs.headD false) (hs.headD false) (atP (qs.headD false) pd) (atL (qs.headD false) pd l) (atH (qs.headD false) pd σ) l1 σ1 l2 σ2 pd2 ∧ Trace mk ops os qs.tail hs.tail (put e o.dst v) l2 σ2 pd2 e' l' σ'
end

section
variable {P : Program} {T : Tab} {R : Type}

theorem Heap.back_frz (σ : Heap) : σ.back σ.frz = σ := by
  simp [Heap.back, Heap.frz]
theorem Locs.back_frz : ∀ (l : Locs), l.back l.frz = l
  | [] => rfl
  | x :: xs => by
    have := Locs.back_frz xs
    simp only [Locs.frz] at this
    simp only [Locs.frz, List.map_cons, Locs.back, this]
    cases x <;> rfl
theorem Heap.row?_frz (σ : Heap) (b : Nat) : σ.frz.row? b = σ.row? b := by
  unfold Heap.row? Heap.frz
  rw [List.getElem?_map]
  cases h : σ[b]? with
  | none => rfl
  | some x =>
    cases x with
    | row cs m => cases m <;> rfl
    | map es m => cases m <;> rfl
    | tys b t sz => rfl
theorem Heap.entries_frz (σ : Heap) (b : Option Nat) : σ.frz.entries b = σ.entries b := by
  cases b with
  | none => rfl
  | some b =>
    unfold Heap.entries Heap.frz
    simp only [List.getElem?_map]
    cases h : σ[b]? with
    | none => rfl
    | some x =>
      cases x with
      | row cs m => cases m <;> rfl
      | map es m => cases m <;> rfl
      | tys b t sz => rfl
theorem Heap.look_frz (σ : Heap) (b : Option Nat) (k z : AVal) : σ.frz.look b k z = σ.look b k z := by
  unfold Heap.look
  rw [Heap.entries_frz]
theorem Heap.has_frz (σ : Heap) (b : Option Nat) (k : AVal) : σ.frz.has b k = σ.has b k := by
  unfold Heap.has
  rw [Heap.entries_frz]
theorem Heap.cell?_frz (σ : Heap) (b o : Nat) : σ.frz.cell? b o = σ.cell? b o := by
  unfold Heap.cell?
  rw [Heap.row?_frz]
theorem Heap.read_frz (σ : Heap) (b : Option Nat) (o n z : Nat) : σ.frz.read b o n z = σ.read b o n z := by
  unfold Heap.read
  cases b with
  | none => rfl
  | some b => simp only [Heap.row?_frz]
theorem Locs.cells?_frz (l : Locs) (s : Nat) : (l.frz[s]?).bind LBlk.cells? = (l[s]?).bind LBlk.cells? := by
  unfold Locs.frz
  rw [List.getElem?_map]
  cases h : l[s]? with
  | none => rfl
  | some x => cases x <;> rfl
theorem still_builtin {T : Tab} {R : Type} (b : Builtin) (hb : (match b with | .len => true | .max => true | .min => true | .unsafeSliceData => true | .complex => true | .real => true | .imag => true | _ => false) = true) {ts : List TypeId} {vs : List AVal} {l : Locs} {σ : Heap} {k : AVal → Locs → Heap → Option R} :
    builtinC T b ts vs l.frz σ.frz (fun v l' σ' => k v (l.back l') (σ.back σ')) = builtinC T b ts vs l σ k := by
  unfold builtinC
  split
  · simp only [Locs.back_frz, Heap.back_frz, Heap.entries_frz]
  · cases hb
  · cases hb
  · cases hb
  · simp only [Locs.back_frz, Heap.back_frz]
  · simp only [Locs.back_frz, Heap.back_frz]
  · simp only [Locs.back_frz, Heap.back_frz]
  · simp only [Locs.back_frz, Heap.back_frz]
  · simp only [Locs.back_frz, Heap.back_frz]
  · rfl
theorem still_builtinU {T : Tab} {R : Type} (b : Builtin) (hb : (match b with | .len => true | .max => true | .min => true | .unsafeSliceData => true | .complex => true | .real => true | .imag => true | _ => false) = true) {ts : List TypeId} {vs : List AVal} {l : Locs} {σ : Heap} {k : AVal → Locs → Heap → Option R} :
    builtinU T b ts vs l.frz σ.frz (fun v l' σ' => k v (l.back l') (σ.back σ')) = builtinU T b ts vs l σ k := by
  unfold builtinU
  split
  · cases hb
  · simp only [Locs.back_frz, Heap.back_frz]
  · cases hb
  · exact still_builtin b hb
theorem still_opC {T : Tab} {R : Type} {f : FuncId} {dst : Option Nat} {ty : TypeId} {op : Op} (h : still T op = true) (e : Env) (l : Locs) (σ : Heap) (k : AVal → Locs → Heap → Option R) :
    opC T f dst ty op e l.frz σ.frz (fun v l' σ' => k v (l.back l') (σ.back σ')) = opC T f dst ty op e l σ k := by
  cases op
  all_goals try (exact Bool.noConfusion h)
  case convert s d x =>
    simp only [still] at h
    simp only [opC]
    split at h
    · rename_i di hd
      rw [hd]
      simp only [Option.bind_some]
      cases T.ti s with
      | none => rfl
      | some si =>
        simp only [Option.bind_some, convC]
        split at h
        · rename_i kd hs
          rw [hs]
          split <;> simp_all [Locs.back_frz, Heap.back_frz]
        · rename_i hs
          rw [hs]
          split <;> simp_all [Locs.back_frz, Heap.back_frz, Heap.read_frz]
        · cases h
    · cases h
  case call c =>
    simp only [still] at h
    simp only [opC]
    split at h
    · rename_i hc
      rw [hc]
      generalize c.argTypes.toList = ts
      generalize c.args.toList.map (ev T e) = vs
      cases T.tagA f with
      | false => exact still_builtin _ rfl
      | true => exact still_builtinU _ rfl
    · rename_i hc
      rw [hc]
      generalize c.argTypes.toList = ts
      generalize c.args.toList.map (ev T e) = vs
      cases T.tagA f with
      | false => exact still_builtin _ rfl
      | true => exact still_builtinU _ rfl
    · rename_i hc
      rw [hc]
      generalize c.argTypes.toList = ts
      generalize c.args.toList.map (ev T e) = vs
      cases T.tagA f with
      | false => exact still_builtin _ rfl
      | true => exact still_builtinU _ rfl
    · rename_i hc
      rw [hc]
      generalize c.argTypes.toList = ts
      generalize c.args.toList.map (ev T e) = vs
      cases T.tagA f with
      | false => exact still_builtin _ rfl
      | true => exact still_builtinU _ rfl
    · rename_i hc
      rw [hc]
      generalize c.argTypes.toList = ts
      generalize c.args.toList.map (ev T e) = vs
      cases T.tagA f with
      | false => exact still_builtin _ rfl
      | true => exact still_builtinU _ rfl
    · rename_i hc
      rw [hc]
      generalize c.argTypes.toList = ts
      generalize c.args.toList.map (ev T e) = vs
      cases T.tagA f with
      | false => exact still_builtin _ rfl
      | true => exact still_builtinU _ rfl
    · rename_i hc
      rw [hc]
      generalize c.argTypes.toList = ts
      generalize c.args.toList.map (ev T e) = vs
      cases T.tagA f with
      | false => exact still_builtin _ rfl
      | true => exact still_builtinU _ rfl
    · cases h
  all_goals simp only [opC, Locs.back_frz, Heap.back_frz, Heap.cell?_frz, Heap.row?_frz, Locs.cells?_frz, Heap.look_frz, Heap.has_frz]
theorem still_stepC {T : Tab} {R : Type} {f : FuncId} {callF : CallF R} {o : Oper} (h : still T o.op = true) (e : Env) (l : Locs) (σ : Heap) (k : AVal → Locs → Heap → Option R) :
    stepC T f callF o e l.frz σ.frz (fun v l' σ' => k v (l.back l') (σ.back σ')) = stepC T f callF o e l σ k := by
  unfold stepC
  split
  · rename_i hop
    rw [hop] at h
    cases h
  · rename_i hop
    rw [hop] at h
    cases h
  · exact still_opC h e l σ k

/-- What is still makes no memory and changes none. -/
theorem still_same_b {T : Tab} {R : Type} (b : Builtin) (hb : (match b with | .len => true | .max => true | .min => true | .unsafeSliceData => true | .complex => true | .real => true | .imag => true | _ => false) = true) {ts : List TypeId} {vs : List AVal} {l : Locs} {σ : Heap} {k : AVal → Locs → Heap → Option R} :
    builtinC T b ts vs l σ k = builtinC T b ts vs l σ (fun v _ _ => k v l σ) := by
  unfold builtinC
  split
  · rfl
  · cases hb
  · cases hb
  · cases hb
  · rfl
  · rfl
  · rfl
  · rfl
  · rfl
  · rfl
theorem still_same_u {T : Tab} {R : Type} (b : Builtin) (hb : (match b with | .len => true | .max => true | .min => true | .unsafeSliceData => true | .complex => true | .real => true | .imag => true | _ => false) = true) {ts : List TypeId} {vs : List AVal} {l : Locs} {σ : Heap} {k : AVal → Locs → Heap → Option R} :
    builtinU T b ts vs l σ k = builtinU T b ts vs l σ (fun v _ _ => k v l σ) := by
  unfold builtinU
  split
  · cases hb
  · rfl
  · cases hb
  · exact still_same_b b hb
theorem still_same {T : Tab} {R : Type} {f : FuncId} {dst : Option Nat} {ty : TypeId} {op : Op} (h : still T op = true) (e : Env) (l : Locs) (σ : Heap) (k : AVal → Locs → Heap → Option R) :
    opC T f dst ty op e l σ k = opC T f dst ty op e l σ (fun v _ _ => k v l σ) := by
  cases op
  all_goals try (exact Bool.noConfusion h)
  case convert s d x =>
    simp only [still] at h
    simp only [opC]
    split at h
    · rename_i di hd
      rw [hd]
      simp only [Option.bind_some]
      cases T.ti s with
      | none => rfl
      | some si =>
        simp only [Option.bind_some, convC]
        split at h
        · rename_i kd hs
          rw [hs]
          split <;> simp_all
        · rename_i hs
          rw [hs]
          split <;> simp_all
        · cases h
    · cases h
  case call c =>
    simp only [still] at h
    simp only [opC]
    split at h
    · rename_i hc
      rw [hc]
      generalize c.argTypes.toList = ts
      generalize c.args.toList.map (ev T e) = vs
      cases T.tagA f with
      | false => exact still_same_b _ rfl
      | true => exact still_same_u _ rfl
    · rename_i hc
      rw [hc]
      generalize c.argTypes.toList = ts
      generalize c.args.toList.map (ev T e) = vs
      cases T.tagA f with
      | false => exact still_same_b _ rfl
      | true => exact still_same_u _ rfl
    · rename_i hc
      rw [hc]
      generalize c.argTypes.toList = ts
      generalize c.args.toList.map (ev T e) = vs
      cases T.tagA f with
      | false => exact still_same_b _ rfl
      | true => exact still_same_u _ rfl
    · rename_i hc
      rw [hc]
      generalize c.argTypes.toList = ts
      generalize c.args.toList.map (ev T e) = vs
      cases T.tagA f with
      | false => exact still_same_b _ rfl
      | true => exact still_same_u _ rfl
    · rename_i hc
      rw [hc]
      generalize c.argTypes.toList = ts
      generalize c.args.toList.map (ev T e) = vs
      cases T.tagA f with
      | false => exact still_same_b _ rfl
      | true => exact still_same_u _ rfl
    · rename_i hc
      rw [hc]
      generalize c.argTypes.toList = ts
      generalize c.args.toList.map (ev T e) = vs
      cases T.tagA f with
      | false => exact still_same_b _ rfl
      | true => exact still_same_u _ rfl
    · rename_i hc
      rw [hc]
      generalize c.argTypes.toList = ts
      generalize c.args.toList.map (ev T e) = vs
      cases T.tagA f with
      | false => exact still_same_b _ rfl
      | true => exact still_same_u _ rfl
    · cases h
  all_goals simp only [opC]
theorem still_stepC' {T : Tab} {R : Type} {f : FuncId} {callF : CallF R} {o : Oper} (h : still T o.op = true) (e : Env) (l : Locs) (σ : Heap) (k : AVal → Locs → Heap → Option R) :
    stepC T f callF o e l σ k = stepC T f callF o e l σ (fun v _ _ => k v l σ) := by
  unfold stepC
  split
  · rename_i hop
    rw [hop] at h
    cases h
  · rename_i hop
    rw [hop] at h
    cases h
  · exact still_same h e l σ k
theorem call_stepC' {T : Tab} {R : Type} {f : FuncId} {callF : CallF R} {o : Oper} (h : isCallF o.op = true) (e : Env) (l : Locs) (σ : Heap) (k : AVal → Locs → Heap → Option R) :
    stepC T f callF o e l σ k = stepC T f callF o e l σ (fun v _ σ' => k v l σ') := by
  unfold stepC
  split
  · rfl
  · rfl
  · rename_i hno _
    unfold isCallF at h
    split at h
    · rename_i x _ _ hop
      exact absurd hop (hno _ _ _)
    · rename_i hop
      rw [hop]
      simp only [opC]
      cases T.tagA f with
      | false => simp only [builtinC]
      | true =>
        simp only [builtinU]
    · cases h
theorem keep_some {σ σ' : Heap} {R : Type} {k : Unit → Option R} {r : R} (h : (keep? σ σ').bind k = some r) : Keep σ σ' ∧ k () = some r := by
  unfold keep? at h
  split at h
  · rename_i hk; exact ⟨keepB_iff.1 hk, h⟩
  · cases h

theorem pure_stepC (ok : TabOK P T) {f : FuncId} {callF : CallF R} {o : Oper} {e : Env} {l : Locs} {σ : Heap} {k : AVal → Locs → Heap → Option R} {r : R} (hp : pureNow T e o.op = true)
    (h : stepC T f callF o e l σ k = some r) : ∃ v, k v l σ = some r ∧ PureAll P T o e v := by
  unfold stepC at h
  split at h
  · rename_i hop
    rw [hop] at hp; cases hp
  · rename_i hop
    rw [hop] at hp; cases hp
  · cases hop : o.op with
    | binOp op t x y yt =>
      rw [hop] at h
      simp only [opC] at h
      rw [binK_eq] at h
      obtain ⟨v, hv, hk⟩ := Option.bind_eq_some_iff.1 h
      refine ⟨v, hk, fun ρ lm A ho => ⟨embS v, fun w => ?_, ?_⟩⟩
      · obtain ⟨g1, g2⟩ := binC_run ok hv (ho x (by simp [hop, Op.operands])) (ho y (by simp [hop, Op.operands])) x y rfl w
        simp only [execOp, hop]
        rw [Sem.run_bind, g1]
        rfl
      · exact (binC_run ok hv (ho x (by simp [hop, Op.operands])) (ho y (by simp [hop, Op.operands])) x y rfl default).2
    | index t x ix =>
      rw [hop] at h hp
      simp only [opC] at h
      obtain ⟨i, hi, h⟩ := Option.bind_eq_some_iff.1 h
      obtain ⟨inf, d, z, ti⟩ := ok.tis hi
      split at h
      · rename_i s j hx hj
        obtain ⟨kj, hj⟩ := idx_some hj
        split at h
        · rename_i ha hs
          obtain rfl := ti.str hs ha
          split at h
          · rename_i hc
            simp only [Bool.and_eq_true, decide_eq_true_eq] at hc
            refine ⟨_, h, fun ρ lm A ho => ?_⟩
            have h1 := ho x (by simp [hop, Op.operands])
            have h2 := ho ix (by simp [hop, Op.operands])
            rw [hx] at h1
            rw [hj] at h2
            simp only [VRel] at h1 h2
            have hlt : j.toNat < s.size := by omega
            have hget : s[j.toNat]? = some s[j.toNat] := getElem?_pos s j.toNat hlt
            refine ⟨.int .u8 (s[j.toNat].toNat : Int), fun w => ?_, ?_⟩
            · simp [execOp, hop, h1, h2, Instr.index, asIntOf, ti.run_underlying, hc.1, hget]
            · simp only [VRel]
              have : s.data.toList.getD j.toNat 0 = s[j.toNat] := by
                have h' : j.toNat < s.data.toList.length := by rw [Array.length_toList]; exact hlt
                simp only [List.getD_eq_getElem?_getD, List.getElem?_eq_getElem h', Option.getD_some]
                rfl
              rw [this]
          · cases h
        · cases h
      · rename_i cs j hx hj
        simp only [pureNow, hx] at hp
        cases hp
      · cases h
    | _ => rw [hop] at hp; cases hp

theorem store_hideH {l : Locs} {σ : Heap} {b : Nat} {cs : List AVal} (h : σ[b]? = some (.row cs .rw)) (ds : List AVal) : Hide l σ l (σ.set b (.row ds .rw)) l ((σ.set b (.row ds .rw)).set b (.row [] .dead)) := by
  have hl := (List.getElem?_eq_some_iff.1 h).1
  refine ⟨by simp, by simp, fun c => ?_, fun t => .inl ⟨rfl, rfl⟩⟩
  by_cases e : b = c
  · subst e
    exact .inr ⟨⟨_, h⟩, ⟨ds, List.getElem?_set_self hl⟩, by rw [List.set_set, List.getElem?_set_self hl]⟩
  · exact .inl ⟨List.getElem?_set_ne e, by rw [List.getElem?_set_ne e, List.getElem?_set_ne e]⟩
theorem getD_set (l : Locs) (t s : Nat) (x : LBlk) (h : t < l.length) : (l.set t x).getD s .none = if t = s then x else l.getD s .none := by
  simp only [List.getD]
  by_cases e : t = s
  · subst e; rw [if_pos rfl, List.getElem?_set_self h]; rfl
  · rw [if_neg e, List.getElem?_set_ne e]
theorem store_hideL {l : Locs} {σ : Heap} {t : Nat} {cs : List AVal} (h : l[t]? = some (.cells cs)) (ds : List AVal) : Hide l σ (l.set t (.cells ds)) σ ((l.set t (.cells ds)).set t .hid) σ := by
  have hl := (List.getElem?_eq_some_iff.1 h).1
  refine ⟨rfl, rfl, fun c => .inl ⟨rfl, rfl⟩, fun s => ?_⟩
  by_cases e : t = s
  · subst e
    exact .inr ⟨⟨cs, by simp [List.getD, h]⟩, ⟨ds, by rw [getD_set _ _ _ _ hl, if_pos rfl]⟩, by rw [List.set_set, getD_set _ _ _ _ hl, if_pos rfl]⟩
  · exact .inl ⟨by rw [getD_set _ _ _ _ hl, if_neg e], by rw [List.set_set, getD_set _ _ _ _ hl, if_neg e]⟩
open Classical in
theorem store_hide {f : FuncId} {callF : CallF R} {o : Oper} {e : Env} {l : Locs} {σ : Heap} {k : AVal → Locs → Heap → Option R} {r : R} (hst : isStore o.op = true) (h : stepC T f callF o e l σ k = some r) :
    stepC T f callF o e l σ (fun v l' σ' => if (∀ p, hideC T e l' σ' o.op = some p → Hide l σ l' σ' p.1 p.2) then k v l' σ' else none) = some r := by
  cases hop : o.op with
  | store t a x =>
    unfold stepC at h ⊢
    rw [hop] at h ⊢
    simp only [opC] at h ⊢
    obtain ⟨i, hi, h⟩ := Option.bind_eq_some_iff.1 h
    rw [hi, Option.bind_some]
    cases hc : (cellAll (ev T e x).cells && decide ((ev T e x).cells.length = i.size)) with
    | false => rw [hc] at h; cases h
    | true =>
      rw [hc] at h
      simp only at h ⊢
      cases ha : ev T e a with
      | ptr p =>
        rw [ha] at h
        simp only at h ⊢
        obtain ⟨q, hq, h⟩ := Option.bind_eq_some_iff.1 h
        obtain ⟨σ', hs, h⟩ := Option.bind_eq_some_iff.1 h
        obtain ⟨cs, g1, g2, g3⟩ := store_some hs
        rw [hq, Option.bind_some, hs, Option.bind_some, if_pos]
        · exact h
        · intro p' hp'
          simp only [hideC, ha, hq] at hp'
          injection hp' with hp'
          subst hp'
          rw [g3]
          exact store_hideH g1 _
      | lptr s o' =>
        rw [ha] at h
        simp only at h ⊢
        split at h
        · rename_i cs hs
          split at h
          · rename_i hb
            rw [if_pos]
            · exact h
            · intro p' hp'
              simp only [hideC, ha] at hp'
              injection hp' with hp'
              subst hp'
              exact store_hideL hs _
          · cases h
        · cases h
      | _ => rw [ha] at h; cases h
  | _ => rw [hop] at hst; cases hst

open Classical in
theorem maker_stepC' {T : Tab} {R : Type} {f : FuncId} {callF : CallF R} {o : Oper} (h : isMaker T f o = true) {e : Env} {l : Locs} {σ : Heap} {k : AVal → Locs → Heap → Option R} :
    stepC T f callF o e l σ k = stepC T f callF o e l σ fun v _ σ' => k v l σ' := by
  unfold isMaker at h
  rw [Bool.or_eq_true] at h
  rcases h with h | h
  · exact call_stepC' h e l σ k
  · rw [Bool.and_eq_true] at h
    obtain ⟨h1, h2⟩ := h
    obtain ⟨dst, op, ty, pos, af, gd⟩ := o
    cases op with
    | buildSlice t n parts =>
      cases dst with
      | none => cases h2
      | some d =>
        simp only [Bool.not_eq_true'] at h2
        simp only [stepC, opC, h2]
    | _ => cases h1
open Classical in
theorem runC_sound (ok : TabOK P T) {f : FuncId} {callF : CallF R} (hc : CallFOK P T callF) {q hf : Bool} {o : Oper} {e : Env} {l : Locs} {σ : Heap} {pd : Option (Locs × Heap)} {k : AVal → Locs → Heap → Option (Locs × Heap) → Option R} {r : R}
    (h : runC T f callF q hf o e l σ pd k = some r) : ∃ v l1 σ1 l2 σ2 pd2, k v l2 σ2 pd2 = some r ∧ StepRel P T (isMaker T f) q hf o e l σ v l1 σ1 ∧ NextP o.guard.isNone (isStore o.op) q hf pd l σ l1 σ1 l2 σ2 pd2 := by
  cases hf with
  | true =>
    cases q with
    | false =>
      unfold runC at h
      cases hp : pureNow T e o.op with
      | false => simp only [hp] at h; cases h
      | true =>
        simp only [hp] at h
        obtain ⟨v, h1, h2⟩ := pure_stepC ok hp h
        exact ⟨v, l, σ, l, σ, pd, h1, ⟨h2, rfl, rfl⟩, .inl ⟨fun h => (by cases h), rfl, rfl, rfl⟩⟩
    | true =>
    unfold runC at h
    cases hcl : isCallF o.op with
    | false =>
      simp only [hcl] at h
      cases hst : isStore o.op with
      | false => simp only [hst] at h; cases h
      | true =>
        simp only [hst] at h
        cases pd with
        | some p => cases h
        | none =>
          simp only at h
          obtain ⟨v, l', σ', h1, h2⟩ := stepC_sound ok hc (store_hide hst h)
          simp only at h1
          split at h1
          · rename_i hh
            obtain ⟨p, hp, h1⟩ := Option.bind_eq_some_iff.1 h1
            exact ⟨v, l', σ', p.1, p.2, _, h1, h2, .inr ⟨rfl, rfl, rfl, hh p hp, rfl, rfl⟩⟩
          · cases h1
    | true =>
      simp only [hcl] at h
      cases pd with
      | some p => cases h
      | none =>
      simp only at h
      have h0 : stepC T f callF o e l σ (fun v l' σ' => if l' = l then (keep? σ σ').bind fun _ => k v l σ' none else none) = some r := by
        rw [call_stepC' hcl]
        simp only [if_true]
        exact h
      obtain ⟨v, l', σ', h1, h2⟩ := stepC_sound ok hc h0
      simp only at h1
      split at h1
      · rename_i hl
        subst hl
        obtain ⟨h3, h4⟩ := keep_some h1
        exact ⟨v, _, _, _, _, _, h4, h2, .inl ⟨fun _ _ => ⟨rfl, h3, fun _ => rfl⟩, rfl, rfl, rfl⟩⟩
      · cases h1
  | false =>
  cases q with
  | false =>
    have h' : stepC T f callF o e l σ (fun v l σ => k v l σ pd) = some r := h
    obtain ⟨v, l', σ', h1, h2⟩ := stepC_sound ok hc h'
    exact ⟨v, l', σ', l', σ', pd, h1, h2, .inl ⟨fun h => (by cases h), rfl, rfl, rfl⟩⟩
  | true =>
    unfold runC at h
    cases hst : still T o.op with
    | true =>
      simp only [hst] at h
      have h0 : stepC T f callF o e l.frz σ.frz (fun v l' σ' => if l' = l.frz ∧ σ' = σ.frz then k v l σ pd else none) = some r := by
        rw [still_stepC' hst]
        simp only [and_self, if_true]
        have e1 := still_stepC (f := f) (callF := callF) hst e l σ (fun v _ _ => k v l σ pd)
        rw [e1]
        exact (still_stepC' hst e l σ (fun v l σ => k v l σ pd)).symm.trans h
      obtain ⟨v, l', σ', h1, h2⟩ := stepC_sound ok hc h0
      simp only at h1
      split at h1
      · rename_i hl
        obtain ⟨rfl, rfl⟩ := hl
        exact ⟨v, _, _, _, _, _, h1, ⟨_, _, h2, (Locs.back_frz l).symm, (Heap.back_frz σ).symm, fun _ => ⟨rfl, rfl⟩, fun _ => rfl⟩, .inl ⟨fun _ h => (by cases h), rfl, rfl, rfl⟩⟩
      · cases h1
    | false =>
      simp only [hst] at h
      cases hm : isMaker T f o with
      | false =>
        obtain ⟨v, l', σ', h1, h2⟩ := stepC_sound ok hc h
        exact ⟨v, _, _, _, _, _, h1, ⟨l', σ', h2, rfl, rfl, fun hs => (by rw [hst] at hs; cases hs), fun hs => (by rw [hm] at hs; cases hs)⟩, .inl ⟨fun _ h => (by cases h), rfl, rfl, rfl⟩⟩
      | true =>
        have h0 : stepC T f callF o e l.frz σ.frz (fun v l' σ' => if l' = l.frz then k v (l.back l') (σ.back σ') pd else none) = some r := by
          rw [maker_stepC' hm]
          simp only [if_true]
          rw [← maker_stepC' (k := fun v l' σ' => k v (l.back l') (σ.back σ') pd) hm]
          exact h
        obtain ⟨v, l', σ', h1, h2⟩ := stepC_sound ok hc h0
        simp only at h1
        split at h1
        · rename_i hl
          subst hl
          exact ⟨v, _, _, _, _, _, h1, ⟨_, σ', h2, rfl, rfl, fun hs => (by rw [hst] at hs; cases hs), fun _ => Locs.back_frz l⟩, .inl ⟨fun _ h => (by cases h), rfl, rfl, rfl⟩⟩
        · cases h1

theorem set_same {e : Env} {d : Nat} {v : AVal} (h : e.getD d .undef = v) (hv : v ≠ .undef) : e.set d v = e := by
  have hl : d < e.length := by
    rcases Nat.lt_or_ge d e.length with h' | h'
    · exact h'
    · rw [List.getD, List.getElem?_eq_none h'] at h
      exact absurd h.symm hv
  rw [List.getD, List.getElem?_eq_getElem hl] at h
  simp only [Option.getD_some] at h
  rw [← h]
  exact List.set_getElem_self hl

theorem opsC_trace (ok : TabOK P T) {f : FuncId} {callF : CallF R} (hc : CallFOK P T callF) {all : Array Oper} {r : R} : ∀ {os : List Oper} {qs hs : List Bool} {e : Env} {l : Locs} {σ : Heap} {pd : Option (Locs × Heap)} {k : Env → Locs → Heap → Option R},
    opsC T f callF all os qs hs e l σ pd k = some r → ∃ e' l' σ', k e' l' σ' = some r ∧ Trace P T (isMaker T f) all os qs hs e l σ pd e' l' σ'
  | [], qs, hs, e, l, σ, pd, k, h => ⟨e, _, _, h, rfl, rfl, rfl⟩
  | o :: os, qs, hs, e, l, σ, pd, k, h => by
    have run : ∀ {e0 : Env}, Wanted all o e0 true → runC T f callF (qs.headD false) (hs.headD false) o e0 (atL (qs.headD false) pd l) (atH (qs.headD false) pd σ) (atP (qs.headD false) pd) (fun v l σ pd => opsC T f callF all os qs.tail hs.tail (put e0 o.dst v) l σ pd k) = some r →
        ∃ e' l' σ', k e' l' σ' = some r ∧ Trace P T (isMaker T f) all (o :: os) qs hs e0 l σ pd e' l' σ' := fun {e0} hw h => by
      obtain ⟨v, l1, σ1, l2, σ2, pd2, h1, h2, h5⟩ := runC_sound ok hc h
      obtain ⟨e', l', σ', h3, h4⟩ := opsC_trace ok hc h1
      exact ⟨e', l', σ', h3, v, l1, σ1, l2, σ2, pd2, .inl ⟨hw, h2⟩, h5, h4⟩
    have skip : ∀ {e0 : Env}, Wanted all o e0 false → opsC T f callF all os qs.tail hs.tail (put e0 o.dst .void) (atL (qs.headD false) pd l) (atH (qs.headD false) pd σ) (atP (qs.headD false) pd) k = some r →
        ∃ e' l' σ', k e' l' σ' = some r ∧ Trace P T (isMaker T f) all (o :: os) qs hs e0 l σ pd e' l' σ' := fun {e0} hw h => by
      obtain ⟨e', l', σ', h3, h4⟩ := opsC_trace ok hc h
      exact ⟨e', l', σ', h3, .void, _, _, _, _, _, .inr ⟨hw, rfl, rfl, rfl⟩, .inl ⟨fun _ _ => ⟨rfl, ⟨Nat.le_refl _, fun _ _ => .inl rfl, fun b x h1 h2 => absurd (List.getElem?_eq_some_iff.1 h2).1 (by omega)⟩, fun hg => by
        obtain ⟨g, want, hgd, _⟩ := hw
        rw [hgd] at hg; cases hg⟩, rfl, rfl, rfl⟩, h4⟩
    simp only [opsC] at h
    split at h
    · rename_i hg
      exact run (.inl hg) h
    · rename_i g want hg
      split at h
      · rename_i hd
        exact skip ⟨g, want, hg, .inl hd⟩ h
      · rename_i d hd
        split at h
        · rename_i b hb
          have hset : e.set d (.bool b) = e := set_same hb (by simp)
          cases want <;> cases b <;> simp only [cond_true, cond_false, hset] at h
          · exact run (.inr ⟨g, false, d, hg, hd, hb⟩) h
          · exact skip ⟨g, false, hg, .inr ⟨d, hd, .inr hb⟩⟩ h
          · exact skip ⟨g, true, hg, .inr ⟨d, hd, .inr hb⟩⟩ h
          · exact run (.inr ⟨g, true, d, hg, hd, hb⟩) h
        · rename_i hb
          exact skip ⟨g, want, hg, .inr ⟨d, hd, .inl hb⟩⟩ h
        · cases h

/-! ### The order of the text -/
/-- What is known of a value's place: is it the guard's? -/
def GuardVal (ops : Array Oper) (o : Oper) (e : Env) (a : Act) (P' : AVal → Value → Prop) : Prop :=
  ∀ g want d, o.guard = some (g, want) → (ops[g]?).bind (·.dst) = some d → e.getD d .undef ≠ .undef → ∃ v, a.tmps[d]? = some v ∧ P' (e.getD d .undef) v

theorem wanted_true {ops : Array Oper} {o : Oper} {e : Env} {a : Act} (h : Wanted ops o e true)
    (hv : ∀ g want d, o.guard = some (g, want) → (ops[g]?).bind (·.dst) = some d → e.getD d .undef = .bool want → a.tmps[d]? = some (.bool want)) : Region.wanted o (yielded ops a.tmps) = true := by
  rcases h with hg | ⟨g, want, d, hg, hd, he⟩
  · simp [Region.wanted, hg]
  · have := hv g want d hg hd he
    simp [Region.wanted, hg, yielded, hd, this]
theorem wanted_false {ops : Array Oper} {o : Oper} {e : Env} {a : Act} (h : Wanted ops o e false)
    (hv : ∀ g want d, o.guard = some (g, want) → (ops[g]?).bind (·.dst) = some d → ∀ x, (x = .void ∨ ∃ b, x = .bool b) → e.getD d .undef = x → ∃ v, a.tmps[d]? = some v ∧ VRel (fun _ => none) noL x v) : Region.wanted o (yielded ops a.tmps) = false := by
  obtain ⟨g, want, hg, hd | ⟨d, hd, he⟩⟩ := h
  · simp [Region.wanted, hg, yielded, hd]
  · rcases he with he | he
    · obtain ⟨v, h1, h2⟩ := hv g want d hg hd _ (.inl rfl) he
      simp only [VRel] at h2
      subst h2
      simp [Region.wanted, hg, yielded, hd, h1, Go.undef]
    · obtain ⟨v, h1, h2⟩ := hv g want d hg hd _ (.inr ⟨_, rfl⟩) he
      simp only [VRel] at h2
      subst h2
      simp [Region.wanted, hg, yielded, hd, h1]

theorem ARel.get {ρ : Mp} {lm : Lp} {e : Env} {a : Act} (h : ARel ds ρ lm e a) {d : Nat} (hd : e.getD d .undef ≠ .undef) : ∃ v, a.tmps[d]? = some v ∧ VRel ρ lm (e.getD d .undef) v := by
  have hl : d < a.tmps.size := by
    rw [h.size]
    rcases Nat.lt_or_ge d e.length with h' | h'
    · exact h'
    · rw [List.getD, List.getElem?_eq_none h'] at hd; exact absurd rfl hd
  exact ⟨a.tmps[d], by simp [hl], h.val d _ (by simp [hl])⟩

theorem wpOps_seq {mk : Oper → Bool} {ops : Array Oper} {Q : Exit → Act → World → Prop} : ∀ (os : List Oper) (i : Nat) (_ : os = ops.toList.drop i) {e : Env} {l : Locs} {σ : Heap} {e' : Env} {l' : Locs} {σ' : Heap} {ρ : Mp} {lm : Lp} {a : Act} {w : World},
    Trace P T mk ops os [] [] e l σ none e' l' σ' → SRel T ds ρ lm e l σ a w →
    (∀ ρ' lm' a' w', SRel T ds ρ' lm' e' l' σ' a' w' → Step ρ lm l σ w ρ' lm' l' σ' w' → Q .normal a' w') → wpOps P ops Q (List.range' i os.length) a w
  | [], i, hos, e, l, σ, e', l', σ', ρ, lm, a, w, ht, hs, hq => by
    obtain ⟨rfl, rfl, rfl⟩ := ht
    exact hq ρ lm a w hs (Step.refl ..)
  | o :: os, i, hos, e, l, σ, e', l', σ', ρ, lm, a, w, ht, hs, hq => by
    obtain ⟨v, l1, σ1, l2, σ2, pd2, h1, h5, h2⟩ := ht
    simp only [List.headD_nil] at h1 h5
    rcases h5 with ⟨_, rfl, rfl, rfl⟩ | ⟨h5, _⟩
    case inr => cases h5
    have hi : ops[i]? = some o := by
      have := congrArg (fun q : List Oper => q[0]?) hos
      simp only [List.getElem?_cons_zero, List.getElem?_drop, Nat.add_zero, Array.getElem?_toList] at this
      exact this.symm
    have hos' : os = ops.toList.drop (i + 1) := by
      have := congrArg List.tail hos
      simpa [List.tail_drop] using this
    simp only [List.length_cons, List.range'_succ, wpOps, hi]
    rcases h1 with ⟨hw, h1⟩ | ⟨hw, rfl, rfl, rfl⟩
    · rw [if_pos (wanted_true hw fun g want d hg hd he => by
        obtain ⟨u, e1, r1⟩ := hs.act.get (d := d) (by rw [he]; simp)
        rw [he] at r1
        simp only [VRel] at r1
        rw [e1, r1])]
      refine .inl (h1 ρ lm a w hs.heap hs.loc hs.glob (fun x _ => ev_rel hs.act hs.glob x) _ _ fun cv w' ρ' lm' q1 q2 q3 q4 q5 => ?_)
      exact wpOps_seq os (i + 1) hos' h2 ⟨hs.act.put q4.ext q5.1 _ q3, q1, q2, fun g hg => let ⟨t, ht⟩ := hs.glob g hg; ⟨t, q4.ext _ _ ht⟩⟩
        fun ρ'' lm'' a'' w'' s1 s2 => hq ρ'' lm'' a'' w'' s1 (q4.trans s2)
    · rw [if_neg (by
        rw [wanted_false hw fun g want d hg hd x hx he => ?_]
        · simp
        · obtain ⟨u, e1, r1⟩ := hs.act.get (d := d) (by rw [he]; rcases hx with rfl | ⟨b, rfl⟩ <;> simp)
          refine ⟨u, e1, ?_⟩
          rw [he] at r1
          rcases hx with rfl | ⟨b, rfl⟩ <;> simpa [VRel] using r1)]
      exact wpOps_seq os (i + 1) hos' h2 ⟨hs.act.put (fun _ _ h => h) (fun _ _ h => h) _ (by simp [VRel]), hs.heap, hs.loc, hs.glob⟩ hq

theorem region_seq {mk : Oper → Bool} {id : Nat} {ops : Array Oper} {Q : Exit → Act → World → Prop} {e : Env} {l : Locs} {σ : Heap} {e' : Env} {l' : Locs} {σ' : Heap} {ρ : Mp} {lm : Lp} {a : Act} {w : World}
    (ht : Trace P T mk ops ops.toList [] [] e l σ none e' l' σ') (hs : SRel T ds ρ lm e l σ a w)
    (hq : ∀ ρ' lm' a' w', SRel T ds ρ' lm' e' l' σ' a' w' → Step ρ lm l σ w ρ' lm' l' σ' w' → Q .normal a' w') : (Code.region id ops false).wp P Q a w := by
  refine wp_region ?_
  have := wpOps_seq (Q := Q) ops.toList 0 (by simp) ht hs hq
  simpa [List.range_eq_range'] using this
end
end Go.Abs
namespace Go.Abs
open Go
variable {ds : List Deferred}

/-- m comes before i, whatever the tape says. -/
inductive Anc (ops : Array Oper) : Nat → Nat → Prop where
  | edge {m i : Nat} {o : Oper} : ops[i]? = some o → hasEdge o m = true → Anc ops m i
  | more {m k i : Nat} {o : Oper} : Anc ops m k → ops[i]? = some o → hasEdge o k = true → Anc ops m i

/-- From the h-th one on. -/
structure Good (ops : Array Oper) (h : Nat) (q : Nat → Bool) : Prop where
  acyc : ∀ (i : Nat) (o : Oper), h ≤ i → ops[i]? = some o → ∀ e ∈ o.after, Region.binds .any e = true → e.on < i
  bar : ∀ (b i : Nat) (o : Oper), ops[i]? = some o → h ≤ b → b < i → q b = false → (∀ m, b < m → m < i → q m = true) → Anc ops b i
  barAll : ∀ (b m : Nat) (o : Oper), ops[b]? = some o → h ≤ m → q b = false → m < b → Anc ops m b
  two : ∀ (k i : Nat) (ok oi : Oper), ops[k]? = some ok → ops[i]? = some oi → h ≤ k → k < i → (∀ m, k ≤ m → m ≤ i → q m = true) →
    (Anc ops k i ∨ ok.apart ops oi = true) ∧ (∀ d, ok.dst = some d → oi.dst ≠ some d)

/-! ### Frozen memory -/
theorem Blk.frz_isRW (x : Blk) : x.frz.isRW = false := by
  cases x with
  | row cs m => cases m <;> rfl
  | map es m => cases m <;> rfl
  | tys b t sz => rfl
theorem Heap.frz_get (σ : Heap) (b : Nat) : σ.frz[b]? = (σ[b]?).map Blk.frz := by simp [Heap.frz]
theorem Heap.frz_length (σ : Heap) : σ.frz.length = σ.length := by simp [Heap.frz]
theorem BRel.frz {ρ : Mp} {pl : Pl} {w : World} {x : Blk} (h : BRel ρ pl w x) : BRel ρ pl w x.frz := by
  cases x with
  | row cs m =>
    cases m with
    | ro => exact h
    | rw => obtain ⟨c, ty, fr, h1, h2, h3, h4, h5, h6⟩ := h; exact ⟨c, ty, fr, h1, h2, h3, h4, (fun h => by cases h), h6.1.win, h6.2⟩
    | dead => exact h
  | map es m =>
    cases m with
    | ro => exact h
    | rw => exact h
    | dead => exact h
  | tys b t sz => exact h.elim
theorem frz_tys (σ : Heap) (ρ : Mp) : TysOK ρ σ.frz := fun j b t sz hj => by
  rw [Heap.frz_get] at hj
  obtain ⟨x, _, e⟩ := Option.map_eq_some_iff.1 hj
  cases x with
  | row cs m => cases m <;> cases e
  | map es m => cases m <;> cases e
  | tys b t sz => cases e
theorem HRel.frz {ρ : Mp} {σ : Heap} {w : World} (h : HRel ρ σ w) : HRel ρ σ.frz w where
  tys := frz_tys σ ρ
  blk := fun b pl hb => let ⟨x, hx, hB⟩ := h.blk b pl hb; ⟨x.frz, by rw [Heap.frz_get, hx]; rfl, hB.frz⟩
  dis := fun b b' pl pl' x x' _ _ hx _ _ _ _ hr => by
    rw [Heap.frz_get] at hx
    obtain ⟨y, _, rfl⟩ := Option.map_eq_some_iff.1 hx
    rw [Blk.frz_isRW] at hr
    cases hr
theorem Locs.frz_getD (l : Locs) (t : Nat) : l.frz.getD t .none = (l.getD t .none).frz := by
  simp only [Locs.frz, List.getD, List.getElem?_map]
  cases l[t]? <;> rfl
theorem LBlk.frz_ro {x : LBlk} (h : x ≠ .none) : x.frz.isRO = true := by cases x <;> first | rfl | (exact absurd rfl h)
theorem LBlk.frz_none {x : LBlk} (h : x.frz = .none) : x = .none := by cases x <;> first | rfl | (cases h)
theorem LOne.frz {ρ : Mp} {k : Nat} {w : World} {x : LBlk} (h : LOne ρ k w x) : LOne ρ k w x.frz := by cases x <;> first | exact h | exact True.intro
theorem LRel.frz {ρ : Mp} {lm : Lp} {l : Locs} {σ : Heap} {w : World} (h : LRel ρ lm l σ w) : LRel ρ lm l.frz σ.frz w where
  loc := fun t k hk => let ⟨h1, h2⟩ := h.loc t k hk; ⟨h1, by rw [Locs.frz_getD]; exact h2.frz⟩
  inj := h.inj
  apart := fun t k b pl x hk hb hx hl => by
    rw [Heap.frz_get] at hx
    obtain ⟨y, hy, rfl⟩ := Option.map_eq_some_iff.1 hx
    refine h.apart t k b pl y hk hb hy ?_
    cases y with
    | row cs m => cases m <;> first | rfl | exact hl
    | map es m => cases m <;> first | rfl | exact hl
    | tys b t sz => first | rfl | exact hl

theorem Heap.back_old (σ σ' : Heap) {b : Nat} (h : b < σ.length) : (σ.back σ')[b]? = σ[b]? := by
  unfold Heap.back; rw [List.getElem?_append_left h]
theorem Heap.back_new' (σ σ' : Heap) {b : Nat} (h : σ.length ≤ b) : (σ.back σ')[b]? = (σ'[b]?).map Blk.untys := by
  unfold Heap.back
  rw [List.getElem?_append_right h, List.getElem?_map, List.getElem?_drop]
  congr 2
  omega
theorem Heap.back_new {σ σ' : Heap} {b : Nat} {x : Blk} (h : σ.length ≤ b) (hx : (σ.back σ')[b]? = some x) : σ'[b]? = some x ∨ x = .row [] .dead := by
  rw [Heap.back_new' _ _ h] at hx
  obtain ⟨y, hy, e⟩ := Option.map_eq_some_iff.1 hx
  cases y with
  | tys b t sz => exact .inr e.symm
  | row cs m => rw [hy, ← e]; exact .inl rfl
  | map es m => rw [hy, ← e]; exact .inl rfl
theorem Heap.back_tys {σ σ' : Heap} {b : Nat} {x : Blk} (hx : (σ.back σ')[b]? = some x) (ht : x.isTys = true) : σ[b]? = some x := by
  rcases Nat.lt_or_ge b σ.length with h | h
  · unfold Heap.back at hx
    rw [List.getElem?_append_left h] at hx
    exact hx
  · rw [Heap.back_new' _ _ h] at hx
    obtain ⟨y, hy, e⟩ := Option.map_eq_some_iff.1 hx
    cases y with
    | tys b t sz => rw [← e] at ht; cases ht
    | row cs m => rw [← e] at ht; cases ht
    | map es m => rw [← e] at ht; cases ht
theorem Heap.back_length (σ σ' : Heap) (h : σ.length ≤ σ'.length) : (σ.back σ').length = σ'.length := by
  unfold Heap.back; simp; omega
theorem Locs.back_getD : ∀ (l l' : Locs) (t : Nat), (Locs.back l l').getD t .none = match l.getD t .none with | .none => l'.getD t .none | x => x
  | [], l', t => by cases l' <;> simp [Locs.back, List.getD]
  | x :: xs, [], t => by
    simp only [Locs.back, List.getD, List.getElem?_nil, Option.getD_none]
    split <;> simp_all
  | x :: xs, y :: ys, 0 => by cases x <;> simp [Locs.back]
  | x :: xs, y :: ys, t + 1 => by
    have := Locs.back_getD xs ys t
    simpa [Locs.back, List.getD] using this
theorem Locs.back_old {l : Locs} {t : Nat} (l' : Locs) (h : l.getD t .none ≠ .none) : (Locs.back l l').getD t .none = l.getD t .none := by
  rw [Locs.back_getD]
  split
  · rename_i h'; exact absurd h' h
  · rfl
theorem Locs.back_new {l : Locs} {t : Nat} (l' : Locs) (h : l.getD t .none = .none) : (Locs.back l l').getD t .none = l'.getD t .none := by
  rw [Locs.back_getD, h]

theorem HRel.grow {ρ : Mp} {σ : Heap} {w w' : World} (h : HRel ρ σ w) (hx : ∀ k, k < w.heap.size → w'.heap[k]? = w.heap[k]?) : HRel ρ σ w' :=
  ⟨fun b pl hb => let ⟨x, hx', hB⟩ := h.blk b pl hb; ⟨x, hx', hB.mono (fun _ _ h => h) (fun hl => hx _ (hB.lt hl))⟩, h.dis, h.tys⟩
theorem LRel.grow {ρ : Mp} {lm : Lp} {l : Locs} {σ : Heap} {w w' : World} (h : LRel ρ lm l σ w) (hs : w.heap.size ≤ w'.heap.size) (hx : ∀ k, k < w.heap.size → w'.heap[k]? = w.heap[k]?) : LRel ρ lm l σ w' :=
  ⟨fun t k hk => let ⟨h1, h2⟩ := h.loc t k hk; ⟨Nat.lt_of_lt_of_le h1 hs, h2.mono (fun _ _ h => h) (hx k h1)⟩, h.inj, h.apart⟩

/-- Cut off: what was there at a moment of the text. -/
def cutR (ρ : Mp) (σ : Heap) : Mp := fun b => if b < σ.length then ρ b else none
def LBlk.isNone : LBlk → Bool | .none => true | _ => false
def cutL (lm : Lp) (l : Locs) : Lp := fun t => if (l.getD t .none).isNone then none else lm t
theorem LBlk.isNone_iff {x : LBlk} : x.isNone = true ↔ x = .none := by cases x <;> simp [LBlk.isNone]
theorem cutR_some {ρ : Mp} {σ : Heap} {b : Nat} {pl : Pl} : cutR ρ σ b = some pl ↔ b < σ.length ∧ ρ b = some pl := by
  unfold cutR
  split
  · rename_i h; simp [h]
  · rename_i h
    constructor
    · intro h'; cases h'
    · intro h'; exact absurd h'.1 h
theorem cutL_some {lm : Lp} {l : Locs} {t k : Nat} : cutL lm l t = some k ↔ l.getD t .none ≠ .none ∧ lm t = some k := by
  unfold cutL
  split
  · rename_i h
    rw [LBlk.isNone_iff] at h
    constructor
    · intro h'; cases h'
    · intro h'; exact absurd h h'.1
  · rename_i h
    have : l.getD t .none ≠ .none := fun h' => h (LBlk.isNone_iff.2 h')
    simp only [this, ne_eq, not_false_eq_true, true_and]

/-! ### The run of the text -/
structure RunOf (P : Program) (T : Tab) (mk : Oper → Bool) (ops : Array Oper) (q hf : Nat → Bool) (E : Nat → Env) (L : Nat → Locs) (H : Nat → Heap) (D : Nat → Option (Locs × Heap)) (V : Nat → AVal) : Prop where
  step : ∀ (j : Nat) (o : Oper), ops[j]? = some o → ∃ l1 σ1, OneStep P T mk ops (q j) (hf j) o (E j) (atL (q j) (D j) (L j)) (atH (q j) (D j) (H j)) (V j) l1 σ1 ∧
    NextP o.guard.isNone (isStore o.op) (q j) (hf j) (atP (q j) (D j)) (atL (q j) (D j) (L j)) (atH (q j) (D j) (H j)) l1 σ1 (L (j + 1)) (H (j + 1)) (D (j + 1))
  env : ∀ (j : Nat) (o : Oper), ops[j]? = some o → E (j + 1) = put (E j) o.dst (V j)

theorem Trace.fns {P : Program} {T : Tab} {mk : Oper → Bool} {ops : Array Oper} : ∀ {os : List Oper} {qs hs : List Bool} {e : Env} {l : Locs} {σ : Heap} {pd : Option (Locs × Heap)} {e' : Env} {l' : Locs} {σ' : Heap}, Trace P T mk ops os qs hs e l σ pd e' l' σ' →
    ∃ (E : Nat → Env) (L : Nat → Locs) (H : Nat → Heap) (D : Nat → Option (Locs × Heap)) (V : Nat → AVal), E 0 = e ∧ L 0 = l ∧ H 0 = σ ∧ D 0 = pd ∧ E os.length = e' ∧ atL false (D os.length) (L os.length) = l' ∧ atH false (D os.length) (H os.length) = σ' ∧
      ∀ (j : Nat) (o : Oper), os[j]? = some o → (∃ l1 σ1, OneStep P T mk ops (qs.getD j false) (hs.getD j false) o (E j) (atL (qs.getD j false) (D j) (L j)) (atH (qs.getD j false) (D j) (H j)) (V j) l1 σ1 ∧
        NextP o.guard.isNone (isStore o.op) (qs.getD j false) (hs.getD j false) (atP (qs.getD j false) (D j)) (atL (qs.getD j false) (D j) (L j)) (atH (qs.getD j false) (D j) (H j)) l1 σ1 (L (j + 1)) (H (j + 1)) (D (j + 1))) ∧ E (j + 1) = put (E j) o.dst (V j)
  | [], qs, hs, e, l, σ, pd, e', l', σ', h => by
    obtain ⟨rfl, rfl, rfl⟩ := h
    exact ⟨fun _ => e', fun _ => l, fun _ => σ, fun _ => pd, fun _ => .undef, rfl, rfl, rfl, rfl, rfl, rfl, rfl, fun j o h => by simp at h⟩
  | o :: os, qs, hs, e, l, σ, pd, e', l', σ', h => by
    obtain ⟨v, l1, σ1, l2, σ2, pd2, h1, h5, h2⟩ := h
    obtain ⟨E, L, H, D, V, a1, a2, a3, a8, a4, a5, a6, a7⟩ := Trace.fns h2
    refine ⟨fun j => match j with | 0 => e | j + 1 => E j, fun j => match j with | 0 => l | j + 1 => L j, fun j => match j with | 0 => σ | j + 1 => H j, fun j => match j with | 0 => pd | j + 1 => D j, fun j => match j with | 0 => v | j + 1 => V j,
      rfl, rfl, rfl, rfl, a4, a5, a6, fun j o' hj => ?_⟩
    cases j with
    | zero =>
      simp only [List.getElem?_cons_zero, Option.some.injEq] at hj
      subst hj
      have : qs.getD 0 false = qs.headD false := by cases qs <;> rfl
      have h' : hs.getD 0 false = hs.headD false := by cases hs <;> rfl
      simp only [this, h', a1, a2, a3, a8]
      exact ⟨⟨l1, σ1, h1, h5⟩, trivial⟩
    | succ j =>
      simp only [List.getElem?_cons_succ] at hj
      have := a7 j o' hj
      have e1 : qs.getD (j + 1) false = qs.tail.getD j false := by cases qs <;> simp [List.getD]
      have e2 : hs.getD (j + 1) false = hs.tail.getD j false := by cases hs <;> simp [List.getD]
      rw [e1, e2]
      exact this

theorem SD.refl (x : Option Blk) : SD x x := .inl rfl
theorem SD.trans {x y z : Option Blk} (h : SD x y) (k : SD y z) : SD x z := by
  rcases h with rfl | ⟨rfl, cs, rfl⟩
  · exact k
  · rcases k with rfl | ⟨rfl, _, _⟩
    · exact .inr ⟨rfl, cs, rfl⟩
    · exact .inr ⟨rfl, cs, rfl⟩
/-- What is live was so. -/
theorem SD.back {x : Option Blk} {y : Blk} (h : SD x (some y)) (hy : y ≠ .row [] .dead) : x = some y := by
  rcases h with h | ⟨h, _⟩
  · exact h.symm
  · injection h with h; exact absurd h hy
theorem SD.ro {x : Blk} {y : Option Blk} (h : SD (some x) y) (hx : x.isRO = true) : y = some x := by
  rcases h with h | ⟨_, cs, h⟩
  · exact h
  · injection h with h; subst h; cases hx
theorem Blk.ne_dead_rw {x : Blk} (h : x.isRW = true) : x ≠ .row [] .dead := fun e => by subst e; cases h
theorem Blk.ne_dead_ro {x : Blk} (h : x.isRO = true) : x ≠ .row [] .dead := fun e => by subst e; cases h
theorem Blk.ne_dead_live {x : Blk} (h : x.live = true) : x ≠ .row [] .dead := fun e => by subst e; cases h

/-- A place is as it was, or hidden. -/
def LD (x y : LBlk) : Prop := y = x ∨ y = .hid
theorem LD.refl (x : LBlk) : LD x x := .inl rfl
theorem LD.trans {x y z : LBlk} (h : LD x y) (k : LD y z) : LD x z := by
  rcases k with rfl | rfl
  · exact h
  · exact .inr rfl
theorem LD.ne {x y : LBlk} (h : LD x y) (hx : x ≠ .none) : y ≠ .none := by
  rcases h with rfl | rfl
  · exact hx
  · intro h; cases h
theorem LD.one {x y : LBlk} (h : LD x y) {ρ : Mp} {k : Nat} {w : World} (hx : LOne ρ k w x) : LOne ρ k w y := by
  rcases h with rfl | rfl
  · exact hx
  · trivial
theorem LD.ro {x y : LBlk} (h : LD x y) (hx : x.isRO = true) : y.isRO = true := by
  rcases h with rfl | rfl
  · exact hx
  · rfl
theorem LD.open {x y : LBlk} (h : LD x y) (hy : y.isRO = false) : y = x := by
  rcases h with rfl | rfl
  · rfl
  · cases hy
section
variable {P : Program} {T : Tab} {mk : Oper → Bool} {ops : Array Oper} {q hf : Nat → Bool} {E : Nat → Env} {L : Nat → Locs} {H : Nat → Heap} {D : Nat → Option (Locs × Heap)} {V : Nat → AVal}

/-- What a quiet step leaves. -/
theorem atL_true (pd : Option (Locs × Heap)) (l : Locs) : atL true pd l = l := by cases pd <;> rfl
theorem atH_true (pd : Option (Locs × Heap)) (σ : Heap) : atH true pd σ = σ := by cases pd <;> rfl
theorem Hide.sd {l l1 l2 : Locs} {σ σ1 σ2 : Heap} (h : Hide l σ l1 σ1 l2 σ2) (b : Nat) : SD σ[b]? σ2[b]? := by
  rcases h.blk b with ⟨_, h2⟩ | ⟨⟨cs, h1⟩, _, h3⟩
  · exact .inl h2
  · exact .inr ⟨h3, cs, h1⟩
theorem Hide.ld {l l1 l2 : Locs} {σ σ1 σ2 : Heap} (h : Hide l σ l1 σ1 l2 σ2) (t : Nat) : LD (l.getD t .none) (l2.getD t .none) := by
  rcases h.loc t with ⟨_, h2⟩ | ⟨_, _, h3⟩
  · exact .inl h2
  · exact .inr h3
theorem quiet_mono (run : RunOf P T mk ops q hf E L H D V) {j : Nat} {o : Oper} (ho : ops[j]? = some o) (hq : q j = true) :
    (H j).length ≤ (H (j + 1)).length ∧ (∀ b, b < (H j).length → SD (H j)[b]? (H (j + 1))[b]?) ∧ (∀ t, (L j).getD t .none ≠ .none → LD ((L j).getD t .none) ((L (j + 1)).getD t .none)) := by
  obtain ⟨l1, σ1, h1, h2⟩ := run.step j o ho
  rw [hq, atL_true, atH_true] at h1 h2
  rcases h2 with ⟨hk, h3, h4, _⟩ | ⟨_, _, _, hh, _⟩
  · rw [h3, h4]
    rcases h1 with ⟨_, hs⟩ | ⟨_, _, e1, e2⟩
    · cases hhf : hf j with
      | true =>
        obtain ⟨k1, ⟨k2, k3, _⟩, _⟩ := hk rfl hhf
        rw [k1]
        exact ⟨k2, k3, fun _ _ => .refl _⟩
      | false =>
        rw [hhf] at hs
        obtain ⟨l1', σ1', _, g2, g3, _, _⟩ := hs
        rw [g2, g3]
        exact ⟨by simp [Heap.back], fun b hb => .inl (Heap.back_old _ _ hb), fun t ht => .inl (Locs.back_old _ ht)⟩
    · rw [e1, e2]
      exact ⟨Nat.le_refl _, fun _ _ => .refl _, fun _ _ => .refl _⟩
  · exact ⟨by rw [hh.len2]; exact Nat.le_refl _, fun b _ => hh.sd b, fun t _ => hh.ld t⟩

theorem SD.tys {x : Option Blk} {y : Blk} (h : SD x (some y)) (ht : y.isTys = true) : x = some y := by
  rcases h with h | ⟨h, _⟩
  · exact h.symm
  · injection h with h; subst h; cases ht
/-- What is told of types was told before. -/
theorem quiet_tys (run : RunOf P T mk ops q hf E L H D V) {j : Nat} {o : Oper} (ho : ops[j]? = some o) (hq : q j = true) {b : Nat} {x : Blk} (hx : (H (j + 1))[b]? = some x) (ht : x.isTys = true) : (H j)[b]? = some x := by
  obtain ⟨l1, σ1, h1, h2⟩ := run.step j o ho
  rw [hq, atL_true, atH_true] at h1 h2
  rcases h2 with ⟨hk, h3, h4, _⟩ | ⟨_, _, _, hh, _⟩
  · rw [h4] at hx
    rcases h1 with ⟨_, hs⟩ | ⟨_, _, e1, e2⟩
    · cases hhf : hf j with
      | true =>
        obtain ⟨k1, ⟨k2, k3, k4⟩, _⟩ := hk rfl hhf
        rcases Nat.lt_or_ge b (H j).length with hb | hb
        · have := k3 b hb
          rw [hx] at this
          exact this.tys ht
        · rw [k4 b x hb hx] at ht; cases ht
      | false =>
        rw [hhf] at hs
        obtain ⟨l1', σ1', _, g2, g3, _, _⟩ := hs
        rw [g3] at hx
        exact Heap.back_tys hx ht
    · rw [e2] at hx; exact hx
  · have := hh.sd b
    rw [hx] at this
    exact this.tys ht

structure Seg (ops : Array Oper) (q hf : Nat → Bool) (L : Nat → Locs) (H : Nat → Heap) (D : Nat → Option (Locs × Heap)) (p z : Nat) : Prop where
  le : p ≤ z
  len : z ≤ ops.size
  d0 : D p = none
  quiet : ∀ j, p ≤ j → j < z → q j = true
  half : ∀ y, p ≤ y → y < z → hf y = true → (∀ m, p ≤ m → m < y → Anc ops m y) ∧ ∀ k, y < k → k < z → (hf k = false → L (k + 1) = L k ∧ (H (k + 1) = H k ∨ (∀ m, p ≤ m → m < z → hf m = true → m = y) ∧ D (y + 1) = D y)) ∧ (hf k = true → ∃ o, ops[k]? = some o ∧ o.guard.isNone = true)

theorem Seg.get {p z : Nat} (s : Seg ops q hf L H D p z) {j : Nat} (h : j < z) : ∃ o, ops[j]? = some o :=
  ⟨_, Array.getElem?_eq_getElem (Nat.lt_of_lt_of_le h s.len)⟩
/-- Nothing is pending where no half bar was. -/
theorem Seg.dn (run : RunOf P T mk ops q hf E L H D V) {p z : Nat} (s : Seg ops q hf L H D p z) {i : Nat} (hp : p ≤ i) : ∀ (d : Nat), i + d ≤ z → (∀ y, i ≤ y → y < i + d → hf y = false) → D (i + d) = D i
  | 0, _, _ => rfl
  | d + 1, hd, hno => by
    have ih := s.dn run hp d (by omega) fun y y1 y2 => hno y y1 (by omega)
    obtain ⟨o, ho⟩ := s.get (j := i + d) (by omega)
    obtain ⟨l1, σ1, _, h2⟩ := run.step (i + d) o ho
    rw [s.quiet (i + d) (by omega) (by omega), hno (i + d) (by omega) (by omega)] at h2
    rcases h2 with ⟨_, _, _, h5⟩ | ⟨_, h3, _⟩
    · rw [show i + (d + 1) = i + d + 1 from rfl, h5, ← ih]; rfl
    · cases h3
theorem Seg.dy (run : RunOf P T mk ops q hf E L H D V) {p z : Nat} (s : Seg ops q hf L H D p z) {y : Nat} (h1 : p ≤ y) (h2 : y < z) (h3 : hf y = true) : D y = none := by
  by_cases hex : ∃ k, p ≤ k ∧ k < y ∧ hf k = true
  · obtain ⟨k, k1, k2, k3⟩ := hex
    obtain ⟨o, ho, hg⟩ := ((s.half k k1 (by omega) k3).2 y k2 h2).2 h3
    obtain ⟨l1, σ1, _, g⟩ := run.step y o ho
    rw [s.quiet y h1 h2, h3] at g
    rcases g with ⟨g, _⟩ | ⟨_, _, g, _⟩
    · exact (g rfl rfl).2.2 hg
    · exact g
  · obtain ⟨d, rfl⟩ := Nat.le.dest h1
    rw [s.dn run (Nat.le_refl _) d (by omega) (fun k k1 k2 => by
      cases h : hf k with
      | false => rfl
      | true => exact absurd ⟨k, k1, k2, h⟩ hex), s.d0]
/-- Behind a deep half bar there is no other one. -/
theorem Seg.last (run : RunOf P T mk ops q hf E L H D V) {p z : Nat} (s : Seg ops q hf L H D p z) {y : Nat} (h1 : p ≤ y) (_ : hf y = true) {pr : Locs × Heap} (hd : D (y + 1) = some pr) :
    ∀ (d : Nat), y + 1 + d ≤ z → (∀ k, y < k → k < y + 1 + d → hf k = false) ∧ D (y + 1 + d) = some pr
  | 0, _ => ⟨fun k k1 k2 => by omega, hd⟩
  | d + 1, hz => by
    obtain ⟨g1, g2⟩ := s.last run h1 ‹_› hd d (by omega)
    have hno : hf (y + 1 + d) = false := by
      cases h : hf (y + 1 + d) with
      | false => rfl
      | true =>
        have := s.dy run (y := y + 1 + d) (by omega) (by omega) h
        rw [g2] at this; cases this
    refine ⟨fun k k1 k2 => ?_, ?_⟩
    · by_cases e : k = y + 1 + d
      · rw [e]; exact hno
      · exact g1 k k1 (by omega)
    · rw [← g2]
      exact s.dn run (i := y + 1 + d) (by omega) 1 (by omega) fun k k1 k2 => by rw [show k = y + 1 + d by omega]; exact hno
theorem Seg.after (run : RunOf P T mk ops q hf E L H D V) {p z : Nat} (s : Seg ops q hf L H D p z) {y : Nat} (h1 : p ≤ y) (h2 : y < z) (h3 : hf y = true) {pr : Locs × Heap} (hpr : D (y + 1) = some pr) : ∀ (d : Nat), y + 1 + d ≤ z → L (y + 1 + d) = L (y + 1) ∧ H (y + 1 + d) = H (y + 1)
  | 0, _ => ⟨rfl, rfl⟩
  | d + 1, hd => by
    obtain ⟨g1, g2⟩ := s.after run h1 h2 h3 hpr d (by omega)
    obtain ⟨k1, k2⟩ := ((s.half y h1 h2 h3).2 (y + 1 + d) (by omega) (by omega)).1 ((s.last run h1 h3 hpr (d + 1) hd).1 _ (by omega) (by omega))
    have k2 := k2.resolve_right fun hh => by rw [hh.2, s.dy run h1 h2 h3] at hpr; cases hpr
    rw [show y + 1 + (d + 1) = y + 1 + d + 1 from rfl, k1, k2]
    exact ⟨g1, g2⟩
/-- What is pending at a stretch's end comes from a half bar. -/
theorem Seg.deep (run : RunOf P T mk ops q hf E L H D V) {p z : Nat} (s : Seg ops q hf L H D p z) : ∀ (d : Nat), p + d ≤ z → ∀ pr, D (p + d) = some pr → ∃ y, p ≤ y ∧ y < p + d ∧ hf y = true ∧ D (y + 1) = some pr
  | 0, _, pr, h => by rw [Nat.add_zero, s.d0] at h; cases h
  | d + 1, hd, pr, h => by
    cases hh : hf (p + d) with
    | true => exact ⟨p + d, by omega, by omega, hh, h⟩
    | false =>
      have e := s.dn run (i := p + d) (by omega) 1 (by omega) fun k k1 k2 => by rw [show k = p + d by omega]; exact hh
      rw [show p + (d + 1) = p + d + 1 from rfl, e] at h
      obtain ⟨y, y1, y2, y3, y4⟩ := s.deep run d (by omega) pr h
      exact ⟨y, y1, by omega, y3, y4⟩
/-- What is pending behind a half bar. -/
theorem Seg.hide (run : RunOf P T mk ops q hf E L H D V) {p z : Nat} (s : Seg ops q hf L H D p z) {y : Nat} (h1 : p ≤ y) (h2 : y < z) (h3 : hf y = true) {lr : Locs} {hr : Heap} (hd : D (y + 1) = some (lr, hr)) : Hide (L y) (H y) lr hr (L (y + 1)) (H (y + 1)) := by
  obtain ⟨o, ho⟩ := s.get h2
  obtain ⟨l1, σ1, _, g⟩ := run.step y o ho
  have hy := s.dy run h1 h2 h3
  rw [s.quiet y h1 h2, h3, hy] at g
  rcases g with ⟨_, _, _, g⟩ | ⟨_, _, _, g, g2⟩
  · rw [hd] at g; cases g
  · rw [hd] at g2
    obtain ⟨g2, _⟩ := g2
    injection g2 with g2
    injection g2 with e1 e2
    subst e1; subst e2
    exact g
theorem seg_mono (run : RunOf P T mk ops q hf E L H D V) {p z : Nat} (s : Seg ops q hf L H D p z) {i : Nat} (hp : p ≤ i) : ∀ (d : Nat), i + d ≤ z →
    (H i).length ≤ (H (i + d)).length ∧ (∀ b, b < (H i).length → SD (H i)[b]? (H (i + d))[b]?) ∧ (∀ t, (L i).getD t .none ≠ .none → LD ((L i).getD t .none) ((L (i + d)).getD t .none))
  | 0, _ => ⟨Nat.le_refl _, fun _ _ => .refl _, fun _ _ => .refl _⟩
  | d + 1, hd => by
    obtain ⟨h1, h2, h3⟩ := seg_mono run s hp d (by omega)
    obtain ⟨o, ho⟩ := s.get (j := i + d) (by omega)
    obtain ⟨g1, g2, g3⟩ := quiet_mono run ho (s.quiet (i + d) (by omega) (by omega))
    rw [show i + (d + 1) = i + d + 1 from rfl]
    exact ⟨by omega, fun b hb => (h2 b hb).trans (g2 b (by omega)), fun t ht => (h3 t ht).trans (g3 t ((h3 t ht).ne ht))⟩
theorem seg_mono' (run : RunOf P T mk ops q hf E L H D V) {p z : Nat} (s : Seg ops q hf L H D p z) {i j : Nat} (hp : p ≤ i) (hij : i ≤ j) (hj : j ≤ z) :
    (H i).length ≤ (H j).length ∧ (∀ b, b < (H i).length → SD (H i)[b]? (H j)[b]?) ∧ (∀ t, (L i).getD t .none ≠ .none → LD ((L i).getD t .none) ((L j).getD t .none)) := by
  obtain ⟨d, rfl⟩ := Nat.le.dest hij
  exact seg_mono run s hp d hj

theorem seg_tys (run : RunOf P T mk ops q hf E L H D V) {p z : Nat} (s : Seg ops q hf L H D p z) {i : Nat} (hp : p ≤ i) {b : Nat} {x : Blk} (ht : x.isTys = true) : ∀ (d : Nat), i + d ≤ z → (H (i + d))[b]? = some x → (H i)[b]? = some x
  | 0, _, h => h
  | d + 1, hd, h => by
    obtain ⟨o, ho⟩ := s.get (j := i + d) (by omega)
    exact seg_tys run s hp ht d (by omega) (quiet_tys run ho (s.quiet (i + d) (by omega) (by omega)) h ht)
theorem seg_tys' (run : RunOf P T mk ops q hf E L H D V) {p z : Nat} (s : Seg ops q hf L H D p z) {i j : Nat} (hp : p ≤ i) (hij : i ≤ j) (hj : j ≤ z) {b : Nat} {x : Blk} (ht : x.isTys = true) (h : (H j)[b]? = some x) : (H i)[b]? = some x := by
  obtain ⟨d, rfl⟩ := Nat.le.dest hij
  exact seg_tys run s hp ht d hj h

/-- Behind a half bar no place comes. -/
theorem Seg.lnone (run : RunOf P T mk ops q hf E L H D V) {p z : Nat} (s : Seg ops q hf L H D p z) {y : Nat} (h1 : p ≤ y) (h2 : y < z) (h3 : hf y = true) (t : Nat) : ∀ (d : Nat), y + 1 + d ≤ z → ((L (y + 1 + d)).getD t .none = .none ↔ (L (y + 1)).getD t .none = .none)
  | 0, _ => Iff.rfl
  | d + 1, hd => by
    rw [← s.lnone run h1 h2 h3 t d (by omega)]
    obtain ⟨o, ho⟩ := s.get (j := y + 1 + d) (by omega)
    cases hh : hf (y + 1 + d) with
    | false => rw [show y + 1 + (d + 1) = y + 1 + d + 1 from rfl, (((s.half y h1 h2 h3).2 (y + 1 + d) (by omega) (by omega)).1 hh).1]
    | true =>
      obtain ⟨l1, σ1, _, g⟩ := run.step (y + 1 + d) o ho
      rw [s.quiet (y + 1 + d) (by omega) (by omega), hh, atL_true, atH_true] at g
      rcases g with ⟨g, g1, _⟩ | ⟨_, _, _, g, _⟩
      · rw [show y + 1 + (d + 1) = y + 1 + d + 1 from rfl, g1, (g rfl rfl).1]
      · rw [show y + 1 + (d + 1) = y + 1 + d + 1 from rfl]
        rcases g.loc t with ⟨_, k2⟩ | ⟨⟨cs, k1⟩, _, k3⟩
        · rw [k2]
        · rw [k1, k3]
          exact ⟨fun h => (by cases h), fun h => (by cases h)⟩
/-- Some of memory is dead: what is told of the rest is so. -/
theorem HRel.weaken {ρ : Mp} {σ σ' : Heap} {w : World} (h : HRel ρ σ w) (hs : ∀ b, b < σ.length → SD σ[b]? σ'[b]?) (ht : ∀ (b : Nat) (x : Blk), σ'[b]? = some x → x.isTys = true → σ[b]? = some x) : HRel ρ σ' w where
  blk := fun b pl hb => by
    obtain ⟨x, hx, hB⟩ := h.blk b pl hb
    rcases hs b (List.getElem?_eq_some_iff.1 hx).1 with e | ⟨e, _⟩
    · exact ⟨x, by rw [e]; exact hx, hB⟩
    · exact ⟨_, e, trivial⟩
  dis := fun b b' pl pl' x x' hb hb' hx hx' hne hl hl' hr => by
    obtain ⟨y, hy, _⟩ := h.blk b pl hb
    obtain ⟨y', hy', _⟩ := h.blk b' pl' hb'
    have g := hs b (List.getElem?_eq_some_iff.1 hy).1
    have g' := hs b' (List.getElem?_eq_some_iff.1 hy').1
    rw [hx] at g
    rw [hx'] at g'
    exact h.dis b b' pl pl' x x' hb hb' (g.back (Blk.ne_dead_live hl)) (g'.back (Blk.ne_dead_live hl')) hne hl hl' hr
  tys := fun k b t sz hk => h.tys k b t sz (ht k _ hk rfl)
theorem LRel.weaken {ρ : Mp} {lm : Lp} {l l' : Locs} {σ σ' : Heap} {w : World} (h : LRel ρ lm l σ w) (hH : HRel ρ σ w) (hs : ∀ b, b < σ.length → SD σ[b]? σ'[b]?) (hl : ∀ t, l.getD t .none ≠ .none → LD (l.getD t .none) (l'.getD t .none)) : LRel ρ lm l' σ' w where
  loc := fun t k hk => by
    obtain ⟨g1, g2⟩ := h.loc t k hk
    exact ⟨g1, (hl t (fun e => by rw [e] at g2; exact g2)).one g2⟩
  inj := h.inj
  apart := fun t k b pl x hk hb hx hv => by
    obtain ⟨y, hy, _⟩ := hH.blk b pl hb
    have g := hs b (List.getElem?_eq_some_iff.1 hy).1
    rw [hx] at g
    exact h.apart t k b pl x hk hb (g.back (Blk.ne_dead_live hv)) hv

/-- A value of the text. -/
theorem env_at (run : RunOf P T mk ops q hf E L H D V) {p z : Nat} (s : Seg ops q hf L H D p z) (t : Nat) : ∀ (d : Nat), p + d ≤ z →
    (E (p + d)).length = (E p).length ∧
    ((∃ k o, p ≤ k ∧ k < p + d ∧ ops[k]? = some o ∧ o.dst = some t ∧ (t < (E p).length → (E (p + d)).getD t .undef = V k)) ∨
      ((∀ k o, p ≤ k → k < p + d → ops[k]? = some o → o.dst ≠ some t) ∧ (E (p + d)).getD t .undef = (E p).getD t .undef))
  | 0, _ => ⟨rfl, .inr ⟨fun k o h1 h2 => by omega, rfl⟩⟩
  | d + 1, hd => by
    obtain ⟨h1, h2⟩ := env_at run s t d (by omega)
    obtain ⟨o, ho⟩ := s.get (j := p + d) (by omega)
    have he := run.env (p + d) o ho
    rw [show p + (d + 1) = p + d + 1 from rfl, he]
    refine ⟨by rw [put_length]; exact h1, ?_⟩
    rw [put_getD]
    by_cases hdst : o.dst = some t
    · left
      refine ⟨p + d, o, by omega, by omega, ho, hdst, fun hl => ?_⟩
      rw [if_pos ⟨hdst, by rw [h1]; exact hl⟩]
    · rw [if_neg (fun h => hdst h.1)]
      rcases h2 with ⟨k, o', k1, k2, k3, k4, k5⟩ | ⟨k1, k2⟩
      · exact .inl ⟨k, o', k1, by omega, k3, k4, k5⟩
      · refine .inr ⟨fun k o' h1 h2 h3 => ?_, k2⟩
        rcases Nat.lt_or_ge k (p + d) with h | h
        · exact k1 k o' h1 h h3
        · obtain rfl : k = p + d := by omega
          rw [ho] at h3
          injection h3 with h3
          subst h3
          exact hdst

/-- No half bar from j on has run. -/
def Free (hf : Nat → Bool) (p z : Nat) (S : Nat → Bool) (j : Nat) : Prop := ∀ y, hf y = true → p ≤ y → y < z → j ≤ y → S y = false
/-- What holds when the operations of S have run. -/
structure Inv (T : Tab) (ds : List Deferred) (ops : Array Oper) (hf : Nat → Bool) (E : Nat → Env) (L : Nat → Locs) (H : Nat → Heap) (D : Nat → Option (Locs × Heap)) (V : Nat → AVal) (p z : Nat) (ρ0 : Mp) (lm0 : Lp) (w0 : World) (S : Nat → Bool) (ρ : Mp) (lm : Lp) (a : Act) (w : World) : Prop where
  ext : ∀ b pl, ρ0 b = some pl → ρ b = some pl
  lext : ∀ t k, lm0 t = some k → lm t = some k
  newR : ∀ b, ρ b ≠ none → ρ0 b = none → ∃ k, p ≤ k ∧ k < z ∧ S k = true ∧ (H k).length ≤ b ∧ b < (H (k + 1)).length
  newL : ∀ t kk, lm t = some kk → lm0 t = none → w0.heap.size ≤ kk ∧ ∃ k o, p ≤ k ∧ k < z ∧ S k = true ∧ ops[k]? = some o ∧ o.dst = some t
  prov : ∀ j b pl x, p ≤ j → j ≤ z → Free hf p z S j → ρ b = some pl → ρ0 b = none → (H j)[b]? = some x → x.isRW = true →
    w0.heap.size ≤ pl.blk ∨ ∃ b0 pl0 x0, ρ0 b0 = some pl0 ∧ (H p)[b0]? = some x0 ∧ x0.isRW = true ∧ pl0.blk = pl.blk
  sep : ∀ y, p ≤ y → y < z → hf y = true → S y = false → ∀ j b pl x, y < j → j ≤ z → ρ b = some pl → (H (y + 1)).length ≤ b → (H j)[b]? = some x → x.live = true → ∀ b0 pl0 x0, ρ b0 = some pl0 → (H y)[b0]? = some x0 → x0.isRW = true → pl0.blk ≠ pl.blk
  nro : ∀ k b x, p ≤ k → k < z → S k = true → (H k).length ≤ b → (H (k + 1))[b]? = some x → x.isRO = false
  rel : ∀ j, p ≤ j → j ≤ z → Free hf p z S j → HRel (cutR ρ (H j)) (H j) w ∧ LRel (cutR ρ (H j)) (cutL lm (L j)) (L j) (H j) w
  real : ∀ y lr hr, p ≤ y → y < z → S y = true → hf y = true → D (y + 1) = some (lr, hr) → HRel (cutR ρ hr) hr w ∧ LRel (cutR ρ hr) (cutL lm lr) lr hr w ∧
    ∀ b pl x, ρ b = some pl → ρ0 b = none → hr[b]? = some x → x.isRW = true → w0.heap.size ≤ pl.blk ∨ ∃ b0 pl0 x0, ρ0 b0 = some pl0 ∧ (H p)[b0]? = some x0 ∧ x0.isRW = true ∧ pl0.blk = pl.blk
  size : a.tmps.size = (E p).length
  defers : a.defers = ds
  act : ∀ t v, a.tmps[t]? = some v →
    (∀ k o, p ≤ k → k < z → S k = true → ops[k]? = some o → o.dst = some t → VRel (cutR ρ (H (k + 1))) (cutL lm (L (k + 1))) (V k) v) ∧
    ((∀ k o, p ≤ k → k < z → S k = true → ops[k]? = some o → o.dst ≠ some t) → VRel ρ0 lm0 ((E p).getD t .undef) v)
  os : w.os = w0.os
  tape : w.tape = w0.tape
  output : w.output = w0.output
  hsize : w0.heap.size ≤ w.heap.size
  old : ∀ k, k < w0.heap.size → (∀ b pl x, ρ0 b = some pl → (H p)[b]? = some x → x.isRW = true → pl.blk ≠ k) → (∀ t, lm0 t = some k → ((L p).getD t .none).isRO = true) → w.heap[k]? = w0.heap[k]?

structure Base (T : Tab) (L : Nat → Locs) (H : Nat → Heap) (p : Nat) (ρ0 : Mp) (lm0 : Lp) : Prop where
  r : ∀ b pl, ρ0 b = some pl → b < (H p).length
  l : ∀ t k, lm0 t = some k → (L p).getD t .none ≠ .none
  glob : GRel T ρ0

end
end Go.Abs
namespace Go.Abs
open Go
variable {ds : List Deferred}

section
variable {P : Program} {T : Tab} {mk : Oper → Bool} {ops : Array Oper} {q hf : Nat → Bool} {E : Nat → Env} {L : Nat → Locs} {H : Nat → Heap} {D : Nat → Option (Locs × Heap)} {V : Nat → AVal}
  {p z : Nat} {ρ0 : Mp} {lm0 : Lp} {w0 : World} {S : Nat → Bool} {ρ : Mp} {lm : Lp} {a : Act} {w : World}

def Closed (ops : Array Oper) (S : Nat → Bool) : Prop := ∀ (k : Nat) (o : Oper) (m : Nat), S k = true → ops[k]? = some o → hasEdge o m = true → S m = true

theorem Anc.inS {m i : Nat} (h : Anc ops m i) : ∀ {o : Oper}, ops[i]? = some o → Closed ops S → (∀ m, hasEdge o m = true → S m = true) → S m = true := by
  induction h with
  | edge ho hm =>
    intro o ho' cl hall
    rw [ho] at ho'
    injection ho' with ho'
    subst ho'
    exact hall _ hm
  | more hmk ho hk ih =>
    intro o ho' cl hall
    rw [ho] at ho'
    injection ho' with ho'
    subst ho'
    have hSk := hall _ hk
    cases hmk with
    | edge ho2 hm2 => exact cl _ _ _ hSk ho2 hm2
    | more hmk2 ho2 hk2 => exact ih ho2 cl fun m' hm' => cl _ _ _ hSk ho2 hm'

/-- What an operation looks at. -/
theorem look_rel {h : Nat} (hhp : h ≤ p) (run : RunOf P T mk ops q hf E L H D V) (good : Good ops h q) (s : Seg ops q hf L H D p z) (base : Base T L H p ρ0 lm0) (inv : Inv T ds ops hf E L H D V p z ρ0 lm0 w0 S ρ lm a w)
    (cl : Closed ops S) {i : Nat} {o : Oper} (hi : ops[i]? = some o) (hp : p ≤ i) (hz : i ≤ z) (hS : i < z → S i = false) (hedge : ∀ m, hasEdge o m = true → S m = true)
    (hall : i = z → ∀ k, p ≤ k → k < z → S k = true)
    {t : Nat} (ht : i < z → t ∈ o.looksAt ops) {v : Value} (hv : a.tmps[t]? = some v) : VRel (cutR ρ (H i)) (cutL lm (L i)) ((E i).getD t .undef) v := by
  have hsz : t < (E p).length := by
    have := (Array.getElem?_eq_some_iff.1 hv).1
    rw [inv.size] at this
    exact this
  obtain ⟨d, rfl⟩ := Nat.le.dest hp
  obtain ⟨h1, h2⟩ := env_at run s t d hz
  obtain ⟨c1, c2⟩ := inv.act t v hv
  rcases h2 with ⟨k, ok, k1, k2, k3, k4, k5⟩ | ⟨k1, k2⟩
  · -- of an operation before it
    have hkS : S k = true := by
      rcases Nat.lt_or_ge (p + d) z with hlt | hge
      · obtain ⟨h, _⟩ := good.two k (p + d) ok o k3 hi (by omega) k2 (fun m m1 m2 => s.quiet m (by omega) (by omega))
        rcases h with h | h
        · exact h.inS hi cl hedge
        · exact absurd (ht hlt) ((Oper.apart_spec h).1 t k4)
      · exact hall (by omega) k k1 (by omega)
    rw [k5 hsz]
    obtain ⟨m1, m2, m3⟩ := seg_mono' run s (i := k + 1) (j := p + d) (by omega) (by omega) hz
    exact (c1 k ok k1 (by omega) hkS k3 k4).mono (fun b pl hb => by rw [cutR_some] at hb ⊢; exact ⟨by omega, hb.2⟩)
      (fun t k hk => by rw [cutL_some] at hk ⊢; exact ⟨(m3 t hk.1).ne hk.1, hk.2⟩)
  · rw [k2]
    have hno : ∀ k ok, p ≤ k → k < z → S k = true → ops[k]? = some ok → ok.dst ≠ some t := fun k ok q1 q2 q3 q4 q5 => by
      rcases Nat.lt_trichotomy k (p + d) with h | h | h
      · exact k1 k ok q1 h q4 q5
      · subst h
        rw [hS q2] at q3
        cases q3
      · have hlt : p + d < z := by omega
        obtain ⟨h', _⟩ := good.two (p + d) k o ok hi q4 (by omega) h (fun m m1 m2 => s.quiet m (by omega) (by omega))
        rcases h' with h' | h'
        · have := h'.inS q4 cl fun m hm => cl k ok m q3 q4 hm
          rw [hS hlt] at this
          cases this
        · exact absurd (ht hlt) ((Oper.apart_spec h').2.2 t q5)
    obtain ⟨m1, m2, m3⟩ := seg_mono' run s (i := p) (j := p + d) (by omega) (by omega) hz
    exact (c2 hno).mono (fun b pl hb => by rw [cutR_some]; exact ⟨by have := base.r b pl hb; omega, inv.ext b pl hb⟩)
      (fun t k hk => by rw [cutL_some]; have := base.l t k hk; exact ⟨(m3 t this).ne this, inv.lext t k hk⟩)

theorem opnd_rel {ρ' : Mp} {lm' : Lp} {e : Env} (hsz : a.tmps.size = e.length) (hg : GRel T ρ') (x : Operand) (h : ∀ t v, x = .tmp t → a.tmps[t]? = some v → VRel ρ' lm' (e.getD t .undef) v) :
    VRel ρ' lm' (ev T e x) (a.eval x) := by
  cases x with
  | tmp t =>
    simp only [ev, Act.eval]
    cases ht : a.tmps[t]? with
    | some v => simpa [Array.getD_eq_getD_getElem?, ht] using h t v rfl ht
    | none =>
      have : e.length ≤ t := by
        have := Array.getElem?_eq_none_iff.1 ht
        omega
      have : e.getD t .undef = .undef := by simp [List.getD, List.getElem?_eq_none this]
      rw [this]
      simp [VRel]
  | const v => exact ofConst_rel ρ' lm' v
  | global g =>
    simp only [ev, Act.eval]
    split
    · rename_i hgl
      obtain ⟨_, hn⟩ := hg g hgl
      simp only [VRel]
      exact ⟨_, hn, by simp⟩
    · simp [VRel]
  | func f =>
    simp only [ev, Act.eval, VRel, VRels]
    exact ⟨[], rfl, rfl⟩

theorem free_at (s : Seg ops q hf L H D p z) (cl : Closed ops S) {i : Nat} (hp : p ≤ i) (hS : S i = false) : Free hf p z S i := fun y y1 y2 y3 y4 => by
  rcases Nat.lt_or_ge i y with h | h
  · cases hy : S y with
    | false => rfl
    | true =>
      obtain ⟨oy, hoy⟩ := s.get y3
      have := ((s.half y y2 y3 y1).1 i hp h).inS hoy cl fun m hm => cl y oy m hy hoy hm
      rw [hS] at this; cases this
  · obtain rfl : y = i := by omega
    exact hS
/-- One more operation has run. -/
theorem inv_next {h : Nat} (hhp : h ≤ p) (run : RunOf P T mk ops q hf E L H D V) (good : Good ops h q) (s : Seg ops q hf L H D p z) (base : Base T L H p ρ0 lm0) (inv : Inv T ds ops hf E L H D V p z ρ0 lm0 w0 S ρ lm a w)
    (cl : Closed ops S) {i : Nat} {o : Oper} (hi : ops[i]? = some o) (hp : p ≤ i) (hz : i < z) (hS : S i = false) (hhf : hf i = false)
    {l1 : Locs} {σ1 : Heap} (hL1 : L (i + 1) = (L i).back l1) (hH1 : H (i + 1) = (H i).back σ1)
    {ρ' : Mp} {lm' : Lp} {w' : World} {cv : Value} (q1 : HRel ρ' σ1 w') (q2 : LRel ρ' lm' l1 σ1 w') (q3 : VRel ρ' lm' (V i) cv)
    (q4 : Step (cutR ρ (H i)) (cutL lm (L i)) (L i).frz (H i).frz w ρ' lm' l1 σ1 w') (q5 : LExt (cutL lm (L i)) lm' (L i).frz w o.dst) :
    ∃ ρn lmn, Inv T ds ops hf E L H D V p z ρ0 lm0 w0 (fun k => k == i || S k) ρn lmn (a.put o.dst cv) w' := by
  have hlen : (H i).length ≤ σ1.length := by have := q4.len; rw [Heap.frz_length] at this; exact this
  have hlen1 : (H (i + 1)).length = σ1.length := by rw [hH1]; exact Heap.back_length _ _ hlen
  have mono : ∀ {j j' : Nat}, p ≤ j → j ≤ j' → j' ≤ z → _ := fun {j j'} h1 h2 h3 => seg_mono' run s (i := j) (j := j') h1 h2 h3
  -- the world has grown
  have hx : ∀ k, k < w.heap.size → w'.heap[k]? = w.heap[k]? := fun k hk => q4.unch k hk
    (fun b pl x _ hb hr => by
      rw [Heap.frz_get] at hb
      obtain ⟨y, _, rfl⟩ := Option.map_eq_some_iff.1 hb
      rw [Blk.frz_isRW] at hr; cases hr)
    (fun t ht => by
      rw [cutL_some] at ht
      rw [Locs.frz_getD]
      exact LBlk.frz_ro ht.1)
  have hws := q4.size
  -- what is new is nobody else's
  have fresh : ∀ b pl x, ρ' b = some pl → σ1[b]? = some x → x.isRW = true → w.heap.size ≤ pl.blk := fun b pl x hb hx' hr => by
    rcases q4.prov b pl x hb hx' hr with h | ⟨b0, pl0, x0, g1, g2, g3, g4⟩
    · exact h
    · rw [Heap.frz_get] at g2
      obtain ⟨y, _, rfl⟩ := Option.map_eq_some_iff.1 g2
      rw [Blk.frz_isRW] at g3; cases g3
  have newrw : ∀ b x, (H i).length ≤ b → σ1[b]? = some x → x.isRO = false := fun b x hb hx' => by
    cases hr : x.isRO with
    | false => rfl
    | true =>
      have := (List.getElem?_eq_some_iff.1 (q4.rob b x hx' hr)).1
      rw [Heap.frz_length] at this
      omega
  have rnone : ∀ b, (H i).length ≤ b → b < (H (i + 1)).length → ρ b = none := fun b h1 h2 => by
    cases hb : ρ b with
    | none => rfl
    | some pl =>
      cases hb0 : ρ0 b with
      | some pl0 =>
        have := base.r b pl0 hb0
        have := (mono (j := p) (j' := i) (by omega) hp (by omega)).1
        omega
      | none =>
        obtain ⟨k, k1, k2, k3, k4, k5⟩ := inv.newR b (by rw [hb]; simp) hb0
        rcases Nat.lt_trichotomy k i with h | h | h
        · have := (mono (j := k + 1) (j' := i) (by omega) (by omega) (by omega)).1
          omega
        · subst h; rw [hS] at k3; cases k3
        · have := (mono (j := i + 1) (j' := k) (by omega) (by omega) (by omega)).1
          omega
  have lnone : ∀ t, o.dst = some t → (L i).getD t .none = .none → lm t = none := fun t ht hl => by
    cases hb : lm t with
    | none => rfl
    | some kk =>
      cases hb0 : lm0 t with
      | some k0 =>
        have := base.l t k0 hb0
        exact absurd hl (((mono (j := p) (j' := i) (by omega) hp (by omega)).2.2 t this).ne this)
      | none =>
        obtain ⟨_, k, ok, k1, k2, k3, k4, k5⟩ := inv.newL t kk hb hb0
        rcases Nat.lt_trichotomy k i with h | h | h
        · exact absurd ht ((good.two k i ok o k4 hi (by omega) h (fun m m1 m2 => s.quiet m (by omega) (by omega))).2 t k5)
        · subst h; rw [hS] at k3; cases k3
        · exact absurd k5 ((good.two i k o ok hi k4 (by omega) h (fun m m1 m2 => s.quiet m (by omega) (by omega))).2 t ht)
  have dnone : ∀ t k ok, o.dst = some t → p ≤ k → k < z → S k = true → ops[k]? = some ok → ok.dst ≠ some t := fun t k ok ht k1 k2 k3 k4 k5 => by
    rcases Nat.lt_trichotomy k i with h | h | h
    · exact absurd ht ((good.two k i ok o k4 hi (by omega) h (fun m m1 m2 => s.quiet m (by omega) (by omega))).2 t k5)
    · subst h; rw [hS] at k3; cases k3
    · exact absurd k5 ((good.two i k o ok hi k4 (by omega) h (fun m m1 m2 => s.quiet m (by omega) (by omega))).2 t ht)
  -- the new places
  let ρn : Mp := fun b => match ρ b with | some pl => some pl | none => if (H i).length ≤ b then ρ' b else none
  let lmn : Lp := fun t => match lm t with | some k => some k | none => if ((L i).getD t .none).isNone then lm' t else none
  have rn1 : ∀ b pl, ρ b = some pl → ρn b = some pl := fun b pl hb => by simp only [ρn, hb]
  have rn2 : ∀ b pl, ρn b = some pl → ρ b = some pl ∨ (ρ b = none ∧ (H i).length ≤ b ∧ ρ' b = some pl) := fun b pl hb => by
    simp only [ρn] at hb
    split at hb
    · rename_i h; injection hb with hb; subst hb; exact .inl h
    · rename_i h
      split at hb
      · exact .inr ⟨h, by assumption, hb⟩
      · cases hb
  have ln1 : ∀ t k, lm t = some k → lmn t = some k := fun t k hb => by simp only [lmn, hb]
  have ln2 : ∀ t k, lmn t = some k → lm t = some k ∨ (lm t = none ∧ (L i).getD t .none = .none ∧ lm' t = some k) := fun t k hb => by
    simp only [lmn] at hb
    split at hb
    · rename_i h; injection hb with hb; subst hb; exact .inl h
    · rename_i h
      split at hb
      · rename_i h'; exact .inr ⟨h, LBlk.isNone_iff.1 h', hb⟩
      · cases hb
  have rlt : ∀ b pl, ρ' b = some pl → b < (H (i + 1)).length := fun b pl hb => by
    obtain ⟨x, hx', _⟩ := q1.blk b pl hb
    rw [hlen1]
    exact (List.getElem?_eq_some_iff.1 hx').1
  -- what the operation's own places are, told by the new ones
  have rle : ∀ b pl, ρ' b = some pl → ρn b = some pl := fun b pl hb => by
    rcases Nat.lt_or_ge b (H i).length with h | h
    · cases hc : cutR ρ (H i) b with
      | none =>
        have := q4.new b hc (by rw [hb]; simp)
        rw [Heap.frz_length] at this
        omega
      | some pl0 =>
        have := q4.ext b pl0 hc
        rw [hb] at this
        injection this with this
        subst this
        exact rn1 b pl (cutR_some.1 hc).2
    · have := rnone b h (rlt b pl hb)
      simp only [ρn, this, if_pos h]
      exact hb
  have lnew : ∀ t k, lm' t = some k → cutL lm (L i) t = none → o.dst = some t ∧ (L i).getD t .none = .none ∧ w.heap.size ≤ k ∧ lm t = none := fun t k hk hn => by
    obtain ⟨h1, h2, h3⟩ := q5.2 t k hn hk
    have h4 : (L i).getD t .none = .none := LBlk.frz_none (by rw [← Locs.frz_getD]; simp [List.getD, h2])
    exact ⟨h1, h4, h3, lnone t h1 h4⟩
  have lnn : ∀ t k, lm' t = some k → (L (i + 1)).getD t .none ≠ .none := fun t k hk => by
    by_cases h : (L i).getD t .none = .none
    · rw [hL1, Locs.back_new _ h]
      intro h'
      have := (q2.loc t k hk).2
      rw [h'] at this
      exact this
    · rw [hL1, Locs.back_old _ h]; exact h
  have lle : ∀ t k, lm' t = some k → lmn t = some k := fun t k hk => by
    cases hc : cutL lm (L i) t with
    | some k0 =>
      have := q5.1 t k0 hc
      rw [hk] at this
      injection this with this
      subst this
      exact ln1 t k (cutL_some.1 hc).2
    | none =>
      obtain ⟨_, h4, _, h5⟩ := lnew t k hk hc
      simp only [lmn, h5]
      rw [if_pos (LBlk.isNone_iff.2 h4)]
      exact hk
  have cut1 : ∀ {j : Nat}, i + 1 ≤ j → j ≤ z → (∀ b pl, ρ' b = some pl → cutR ρn (H j) b = some pl) ∧ (∀ t k, lm' t = some k → cutL lmn (L j) t = some k) := fun {j} h1 h2 => by
    obtain ⟨m1, m2, m3⟩ := mono (j := i + 1) (j' := j) (by omega) h1 h2
    refine ⟨fun b pl hb => cutR_some.2 ⟨by have := rlt b pl hb; omega, rle b pl hb⟩, fun t k hk => cutL_some.2 ⟨?_, lle t k hk⟩⟩
    have := lnn t k hk
    exact (m3 t this).ne this
  have cut2 : ∀ {j : Nat}, (∀ b pl, cutR ρ (H j) b = some pl → cutR ρn (H j) b = some pl) ∧ (∀ t k, cutL lm (L j) t = some k → cutL lmn (L j) t = some k) := fun {j} =>
    ⟨fun b pl hb => by rw [cutR_some] at hb ⊢; exact ⟨hb.1, rn1 b pl hb.2⟩, fun t k hk => by rw [cutL_some] at hk ⊢; exact ⟨hk.1, ln1 t k hk.2⟩⟩
  have freeS : ∀ {j : Nat}, Free hf p z (fun k => k == i || S k) j → Free hf p z S j := fun {j} h y y1 y2 y3 y4 => by
    have := h y y1 y2 y3 y4
    simp only [Bool.or_eq_false_iff] at this
    exact this.2
  refine ⟨ρn, lmn, ?_⟩
  refine ⟨fun b pl hb => rn1 b pl (inv.ext b pl hb), fun t k hk => ln1 t k (inv.lext t k hk), fun b hb hb0 => ?_, fun t kk hk hk0 => ?_, fun j b pl x hj1 hj2 hfr hb hb0 hx' hr => ?_, fun y hy1 hy2 hy3 hy4 j b pl x hyj hjz hb hlb hx' hl b0 pl0 x0 hb0 hx0 hr0 => ?_, fun k b x k1 k2 k3 hb hx' => ?_,
    fun j hj1 hj2 hfr => ?_, fun y lr hr hy1 hy2 hy3 hy4 hy5 => ?_, by rw [actput_size]; exact inv.size, by rw [actput_defers]; exact inv.defers, fun t v hv => ?_, q4.os.trans inv.os, q4.tape.trans inv.tape, q4.output.trans inv.output, Nat.le_trans inv.hsize hws,
    fun k hk o1 o2 => by rw [hx k (Nat.lt_of_lt_of_le hk inv.hsize), inv.old k hk o1 o2]⟩
  · cases hbn : ρn b with
    | none => exact absurd hbn hb
    | some pl =>
      rcases rn2 b pl hbn with h | ⟨_, h2, h3⟩
      · obtain ⟨k, k1, k2, k3, k4⟩ := inv.newR b (by rw [h]; simp) hb0
        exact ⟨k, k1, k2, by simp [k3], k4⟩
      · exact ⟨i, hp, hz, by simp, h2, rlt b pl h3⟩
  · rcases ln2 t kk hk with h | ⟨h1, h2, h3⟩
    · obtain ⟨g1, k, ok, k1, k2, k3, k4⟩ := inv.newL t kk h hk0
      exact ⟨g1, k, ok, k1, k2, by simp [k3], k4⟩
    · have hc : cutL lm (L i) t = none := by simp [cutL, h1]
      obtain ⟨g1, _, g2, _⟩ := lnew t kk h3 hc
      exact ⟨Nat.le_trans inv.hsize g2, i, o, hp, hz, by simp, hi, g1⟩
  · rcases rn2 b pl hb with h | ⟨_, h2, h3⟩
    · exact inv.prov j b pl x hj1 hj2 (freeS hfr) h hb0 hx' hr
    · have hb1 := rlt b pl h3
      rcases Nat.lt_or_ge i j with hij | hij
      · have hsd := (mono (j := i + 1) (j' := j) (by omega) hij hj2).2.1 b hb1
        rw [hx'] at hsd
        have := hsd.back (Blk.ne_dead_rw hr)
        rw [hH1] at this
        exact .inl (Nat.le_trans inv.hsize (fresh b pl x h3 ((Heap.back_new h2 this).resolve_right (Blk.ne_dead_rw hr)) hr))
      · have := (mono (j := j) (j' := i) hj1 hij (by omega)).1
        have := (List.getElem?_eq_some_iff.1 hx').1
        omega
  · simp only [Bool.or_eq_false_iff, beq_eq_false_iff_ne] at hy4
    obtain ⟨hyi, hSy⟩ := hy4
    have fy := free_at s cl hy1 hSy
    obtain ⟨rz, _⟩ := inv.rel j (by omega) hjz fun m m1 m2 m3 m4 => fy m m1 m2 m3 (by omega)
    obtain ⟨ry, _⟩ := inv.rel y hy1 (by omega) fy
    have hby := (List.getElem?_eq_some_iff.1 hx0).1
    have hbj := (List.getElem?_eq_some_iff.1 hx').1
    rcases rn2 b pl hb with h | ⟨_, h2, h3⟩ <;> rcases rn2 b0 pl0 hb0 with g | ⟨_, g2, g3⟩
    · exact inv.sep y hy1 hy2 hy3 hSy j b pl x hyj hjz h hlb hx' hl b0 pl0 x0 g hx0 hr0
    · have hiy : i < y := by
        rcases Nat.lt_or_ge i y with h' | h'
        · exact h'
        · have := (mono (j := y) (j' := i) hy1 h' (by omega)).1
          omega
      have hsd := (mono (j := i + 1) (j' := y) (by omega) hiy (by omega)).2.1 b0 (rlt b0 pl0 g3)
      rw [hx0] at hsd
      have := hsd.back (Blk.ne_dead_rw hr0)
      rw [hH1] at this
      have h5 := fresh b0 pl0 x0 g3 ((Heap.back_new g2 this).resolve_right (Blk.ne_dead_rw hr0)) hr0
      obtain ⟨y0, e0, hB⟩ := rz.blk b pl (cutR_some.2 ⟨hbj, h⟩)
      rw [hx'] at e0
      injection e0 with e0
      subst e0
      have := hB.lt hl
      omega
    · have hij : i < j := by
        rcases Nat.lt_or_ge i j with h' | h'
        · exact h'
        · have := (mono (j := j) (j' := i) (by omega) h' (by omega)).1
          omega
      have hsd := (mono (j := i + 1) (j' := j) (by omega) hij hjz).2.1 b (rlt b pl h3)
      rw [hx'] at hsd
      have := hsd.back (Blk.ne_dead_live hl)
      rw [hH1] at this
      have h4 := (Heap.back_new h2 this).resolve_right (Blk.ne_dead_live hl)
      have h5 : w.heap.size ≤ pl.blk := by
        rcases Blk.live_cases hl with h6 | h6
        · exact fresh b pl x h3 h4 h6
        · rw [newrw b x h2 h4] at h6; cases h6
      obtain ⟨y0, e0, hB⟩ := ry.blk b0 pl0 (cutR_some.2 ⟨hby, g⟩)
      rw [hx0] at e0
      injection e0 with e0
      subst e0
      have := hB.lt (Blk.live_of_isRW hr0)
      omega
    · exfalso
      have := rlt b pl h3
      rcases Nat.lt_trichotomy i y with h' | h' | h'
      · have := (mono (j := i + 1) (j' := y) (by omega) h' (by omega)).1
        have := (mono (j := y) (j' := y + 1) (by omega) (by omega) (by omega)).1
        omega
      · exact hyi h'.symm
      · have := (mono (j := y) (j' := i) hy1 (by omega) (by omega)).1
        omega
  · simp only [Bool.or_eq_true, beq_iff_eq] at k3
    by_cases e : k = i
    · subst e
      rw [hH1] at hx'
      rcases Heap.back_new hb hx' with h | h
      · exact newrw b x hb h
      · rw [h]; rfl
    · exact inv.nro k b x k1 k2 (k3.resolve_left e) hb hx'
  · obtain ⟨r1, r2⟩ := inv.rel j hj1 hj2 (freeS hfr)
    rcases Nat.lt_or_ge i j with hij | hij
    · -- after it
      obtain ⟨m1, m2, m3⟩ := mono (j := i + 1) (j' := j) (by omega) hij hj2
      obtain ⟨c1, c2⟩ := cut1 (j := j) hij hj2
      obtain ⟨d1, d2⟩ := cut2 (j := j)
      -- a place is an old one or a new one
      have caseR : ∀ b pl x, cutR ρn (H j) b = some pl → (H j)[b]? = some x → (cutR ρ (H j) b = some pl ∧ BRel (cutR ρ (H j)) pl w x) ∨ (ρ' b = some pl ∧ σ1[b]? = some x ∧ (H i).length ≤ b) ∨ x = .row [] .dead := fun b pl x hb hx' => by
        rw [cutR_some] at hb
        rcases rn2 b pl hb.2 with h | ⟨_, h2, h3⟩
        · have hc := cutR_some.2 ⟨hb.1, h⟩
          obtain ⟨y, hy, hB⟩ := r1.blk b pl hc
          rw [hx'] at hy
          injection hy with hy
          subst hy
          exact .inl ⟨hc, hB⟩
        · have hsd := m2 b (rlt b pl h3)
          rw [hx'] at hsd
          by_cases hd : x = .row [] .dead
          · exact .inr (.inr hd)
          · have := hsd.back hd
            rw [hH1] at this
            exact .inr (.inl ⟨h3, (Heap.back_new h2 this).resolve_right hd, h2⟩)
      have newlive : ∀ b pl x, ρ' b = some pl → σ1[b]? = some x → (H i).length ≤ b → x.live = true → w.heap.size ≤ pl.blk := fun b pl x h1 h2 h3 h4 => by
        rcases Blk.live_cases h4 with h | h
        · exact fresh b pl x h1 h2 h
        · rw [newrw b x h3 h2] at h; cases h
      have caseL : ∀ t kk, cutL lmn (L j) t = some kk → cutL lm (L j) t = some kk ∨ (lm' t = some kk ∧ (L i).getD t .none = .none ∧ w.heap.size ≤ kk ∧ o.dst = some t) := fun t kk hk => by
        rw [cutL_some] at hk
        rcases ln2 t kk hk.2 with h | ⟨h1, h2, h3⟩
        · exact .inl (cutL_some.2 ⟨hk.1, h⟩)
        · have hc : cutL lm (L i) t = none := by simp [cutL, h1]
          obtain ⟨g1, _, g2, _⟩ := lnew t kk h3 hc
          exact .inr ⟨h3, h2, g2, g1⟩
      refine ⟨⟨fun b pl hb => ?_, fun b b' pl pl' x x' hb hb' hx1 hx2 hne hl hl' hr => ?_, r1.tys.mono d1⟩, ⟨fun t kk hk => ?_, fun t t' kk hk hk' => ?_, fun t kk b pl x hk hb hx' hl => ?_⟩⟩
      · have hb2 := (cutR_some.1 hb).1
        have hx' : (H j)[b]? = some ((H j)[b]'hb2) := by simp
        refine ⟨_, hx', ?_⟩
        rcases caseR b pl _ hb hx' with ⟨h1, h2⟩ | ⟨h1, h2, h3⟩ | hdd
        · exact h2.mono d1 (fun hl => hx _ (h2.lt hl))
        · obtain ⟨y, hy, hB⟩ := q1.blk b pl h1
          rw [h2] at hy
          injection hy with hy
          rw [hy]
          exact hB.mono c1 (fun _ => rfl)
        · rw [hdd]; trivial
      · rcases caseR b pl x hb hx1 with ⟨h1, h2⟩ | ⟨h1, h2, h3⟩ | hdd <;> rcases caseR b' pl' x' hb' hx2 with ⟨g1, g2⟩ | ⟨g1, g2, g3⟩ | hdd'
        · exact r1.dis b b' pl pl' x x' h1 g1 hx1 hx2 hne hl hl' hr
        · have := h2.lt hl
          have := newlive b' pl' x' g1 g2 g3 hl'
          omega
        · exact absurd hdd' (Blk.ne_dead_live hl')
        · have := g2.lt hl'
          have := newlive b pl x h1 h2 h3 hl
          omega
        · exact q1.dis b b' pl pl' x x' h1 g1 h2 g2 hne hl hl' hr
        · exact absurd hdd' (Blk.ne_dead_live hl')
        · exact absurd hdd (Blk.ne_dead_live hl)
        · exact absurd hdd (Blk.ne_dead_live hl)
        · exact absurd hdd (Blk.ne_dead_live hl)
      · rcases caseL t kk hk with h | ⟨h1, h2, h3, h4⟩
        · obtain ⟨g1, g2⟩ := r2.loc t kk h
          exact ⟨by omega, g2.mono d1 (hx kk g1)⟩
        · obtain ⟨g1, g2⟩ := q2.loc t kk h1
          refine ⟨g1, ?_⟩
          refine (m3 t (lnn t kk h1)).one ?_
          rw [hL1, Locs.back_new _ h2]
          exact g2.mono c1 rfl
      · rcases caseL t kk hk with h | ⟨h1, h2, h3, h4⟩ <;> rcases caseL t' kk hk' with g | ⟨g1, g2, g3, g4⟩
        · exact r2.inj t t' kk h g
        · have := (r2.loc t kk h).1
          omega
        · have := (r2.loc t' kk g).1
          omega
        · rw [h4] at g4; injection g4
      · rcases caseL t kk hk with h | ⟨h1, h2, h3, h4⟩ <;> rcases caseR b pl x hb hx' with ⟨g1, g2⟩ | ⟨g1, g2, g3⟩ | hdd
        · exact r2.apart t kk b pl x h g1 hx' hl
        · have := (r2.loc t kk h).1
          have := newlive b pl x g1 g2 g3 hl
          omega
        · exact absurd hdd (Blk.ne_dead_live hl)
        · have := g2.lt hl
          omega
        · exact q2.apart t kk b pl x h1 g1 g2 hl
        · exact absurd hdd (Blk.ne_dead_live hl)
    · -- before it
      obtain ⟨m1, m2, m3⟩ := mono (j := j) (j' := i) hj1 hij (by omega)
      have e1 : cutR ρn (H j) = cutR ρ (H j) := by
        funext b
        unfold cutR
        split
        · simp only [ρn]
          split
          · rename_i h; rw [h]
          · rename_i h; rw [if_neg (by omega), h]
        · rfl
      have e2 : cutL lmn (L j) = cutL lm (L j) := by
        funext t
        unfold cutL
        split
        · rfl
        · rename_i hn
          have hn' : (L j).getD t .none ≠ .none := fun h => hn (LBlk.isNone_iff.2 h)
          simp only [lmn]
          split
          · rename_i h; rw [h]
          · rename_i h
            rw [if_neg, h]
            intro h'
            rw [LBlk.isNone_iff] at h'
            exact (m3 t hn').ne hn' h'
      rw [e1, e2]
      exact ⟨r1.grow hx, r2.grow hws hx⟩
  · have hyi : y ≠ i := fun e => by rw [e, hhf] at hy4; cases hy4
    have hSy : S y = true := by
      simp only [Bool.or_eq_true, beq_iff_eq] at hy3
      exact hy3.resolve_left hyi
    have hlt : y < i := by
      rcases Nat.lt_trichotomy y i with h | h | h
      · exact h
      · exact absurd h hyi
      · obtain ⟨oy, hoy⟩ := s.get hy2
        have := ((s.half y hy1 hy2 hy4).1 i hp h).inS hoy cl fun m hm => cl y oy m hSy hoy hm
        rw [hS] at this; cases this
    obtain ⟨r1, r2, r3⟩ := inv.real y lr hr hy1 hy2 hSy hy4 hy5
    have hh := s.hide run hy1 hy2 hy4 hy5
    obtain ⟨d, hd⟩ := Nat.le.dest (show y + 1 ≤ i by omega)
    obtain ⟨g1, g2⟩ := s.after run hy1 hy2 hy4 hy5 d (by omega)
    rw [hd] at g1 g2
    have hln : hr.length = (H i).length := by rw [g2, hh.len1, hh.len2]
    have e1 : cutR ρn hr = cutR ρ hr := by
      funext b
      unfold cutR
      split
      · simp only [ρn]
        split
        · rename_i h; rw [h]
        · rename_i h; rw [if_neg (by omega), h]
      · rfl
    have e2 : cutL lmn lr = cutL lm lr := by
      funext t
      unfold cutL
      split
      · rfl
      · rename_i hn
        have hn' : lr.getD t .none ≠ .none := fun h => hn (LBlk.isNone_iff.2 h)
        simp only [lmn]
        split
        · rename_i h; rw [h]
        · rename_i h
          rw [if_neg, h]
          intro h'
          rw [LBlk.isNone_iff, g1] at h'
          rcases hh.loc t with ⟨k1, k2⟩ | ⟨_, _, k3⟩
          · rw [k1, ← k2] at hn'; exact hn' h'
          · rw [k3] at h'; cases h'
    rw [e1, e2]
    refine ⟨r1.grow hx, r2.grow hws hx, fun b pl x hb hb0 hxb hrw => ?_⟩
    have hbl := (List.getElem?_eq_some_iff.1 hxb).1
    rcases rn2 b pl hb with h | ⟨_, h2, _⟩
    · exact r3 b pl x h hb0 hxb hrw
    · omega
  · rw [actput_get] at hv
    by_cases hd : o.dst = some t ∧ t < a.tmps.size
    · rw [if_pos hd] at hv
      injection hv with hv
      subst hv
      refine ⟨fun k ok k1 k2 k3 k4 k5 => ?_, fun h => absurd hd.1 (h i o hp hz (by simp) hi)⟩
      simp only [Bool.or_eq_true, beq_iff_eq] at k3
      by_cases e : k = i
      · subst e
        obtain ⟨c1, c2⟩ := cut1 (j := k + 1) (Nat.le_refl _) (by omega)
        exact q3.mono c1 c2
      · exact absurd k5 (dnone t k ok hd.1 k1 k2 (k3.resolve_left e) k4)
    · rw [if_neg hd] at hv
      have hd' : o.dst ≠ some t := fun h => hd ⟨h, (Array.getElem?_eq_some_iff.1 hv).1⟩
      obtain ⟨c1, c2⟩ := inv.act t v hv
      refine ⟨fun k ok k1 k2 k3 k4 k5 => ?_, fun h => c2 fun k ok k1 k2 k3 => h k ok k1 k2 (by simp [k3])⟩
      simp only [Bool.or_eq_true, beq_iff_eq] at k3
      by_cases e : k = i
      · subst e
        rw [hi] at k4
        injection k4 with k4
        subst k4
        exact absurd k5 hd'
      · obtain ⟨d1, d2⟩ := cut2 (j := k + 1)
        exact (c1 k ok k1 k2 (k3.resolve_left e) k4 k5).mono d1 d2

/-- The half bar has run. -/
theorem inv_half {h : Nat} (hhp : h ≤ p) (run : RunOf P T mk ops q hf E L H D V) (good : Good ops h q) (s : Seg ops q hf L H D p z) (base : Base T L H p ρ0 lm0) (inv : Inv T ds ops hf E L H D V p z ρ0 lm0 w0 S ρ lm a w)
    (cl : Closed ops S) {i : Nat} {o : Oper} (hi : ops[i]? = some o) (hp : p ≤ i) (hz : i < z) (hS : S i = false) (hhf : hf i = true) (hedge : ∀ m, hasEdge o m = true → S m = true)
    (hL1 : L (i + 1) = L i) (hD : D (i + 1) = none)
    {ρ' : Mp} {lm' : Lp} {w' : World} {cv : Value} (q1 : HRel ρ' (H (i + 1)) w') (q2 : LRel ρ' lm' (L i) (H (i + 1)) w') (q3 : VRel ρ' lm' (V i) cv)
    (q4 : Step (cutR ρ (H i)) (cutL lm (L i)) (L i) (H i) w ρ' lm' (L i) (H (i + 1)) w') (q5 : LExt (cutL lm (L i)) lm' (L i) w o.dst) :
    Inv T ds ops hf E L H D V p z ρ0 lm0 w0 (fun k => k == i || S k) (fun b => if b < (H (i + 1)).length then ρ' b else ρ b) lm (a.put o.dst cv) w' := by
  have mono : ∀ {j j' : Nat}, p ≤ j → j ≤ j' → j' ≤ z → _ := fun {j j'} h1 h2 h3 => seg_mono' run s (i := j) (j := j') h1 h2 h3
  have fi := free_at s cl hp hS
  have beyond : ∀ j, Free hf p z (fun k => k == i || S k) j → i < j := fun j hj => by
    rcases Nat.lt_or_ge i j with h | h
    · exact h
    · have := hj i hhf hp hz h
      simp at this
  have hln : (H i).length ≤ (H (i + 1)).length := q4.len
  have rold : ∀ b pl, ρ b = some pl → b < (H i).length ∨ (H (i + 1)).length ≤ b := fun b pl hb => by
    cases hb0 : ρ0 b with
    | some pl0 =>
      have := base.r b pl0 hb0
      have := (mono (j := p) (j' := i) (by omega) hp (by omega)).1
      exact .inl (by omega)
    | none =>
      obtain ⟨k, k1, k2, k3, k4, k5⟩ := inv.newR b (by rw [hb]; simp) hb0
      rcases Nat.lt_trichotomy k i with h | h | h
      · have := (mono (j := k + 1) (j' := i) (by omega) (by omega) (by omega)).1
        exact .inl (by omega)
      · subst h; rw [hS] at k3; cases k3
      · have := (mono (j := i + 1) (j' := k) (by omega) h (by omega)).1
        exact .inr (by omega)
  have rsub' : ∀ b pl, ρ b = some pl → b < (H i).length → ρ' b = some pl := fun b pl hb hl => q4.ext b pl (cutR_some.2 ⟨hl, hb⟩)
  let ρn : Mp := fun b => if b < (H (i + 1)).length then ρ' b else ρ b
  have rn0 : ∀ b, (H (i + 1)).length ≤ b → ρn b = ρ b := fun b hb => if_neg (by omega)
  have rn1 : ∀ b, b < (H (i + 1)).length → ρn b = ρ' b := fun b hb => if_pos hb
  have rsub : ∀ b pl, ρ b = some pl → ρn b = some pl := fun b pl hb => by
    rcases rold b pl hb with h | h
    · rw [rn1 b (by omega)]; exact rsub' b pl hb h
    · rw [rn0 b h]; exact hb
  have rlt : ∀ b pl, ρ' b = some pl → b < (H (i + 1)).length := fun b pl hb => by
    obtain ⟨x, hx', _⟩ := q1.blk b pl hb
    exact (List.getElem?_eq_some_iff.1 hx').1
  have rle : ∀ b pl, ρ' b = some pl → ρn b = some pl := fun b pl hb => by rw [rn1 b (rlt b pl hb)]; exact hb
  have lback : ∀ t k, lm' t = some k → cutL lm (L i) t = some k := fun t k hk => by
    cases hc : cutL lm (L i) t with
    | some k0 =>
      have := q5.1 t k0 hc
      rw [hk] at this
      injection this with this
      rw [this]
    | none =>
      obtain ⟨_, h2, _⟩ := q5.2 t k hc hk
      have := (q2.loc t k hk).2
      rw [List.getD, h2] at this
      exact this.elim
  have lcut : cutL lm (L i) = lm' := by
    funext t
    cases hc : cutL lm (L i) t with
    | some k => exact (q5.1 t k hc).symm
    | none =>
      cases hk : lm' t with
      | none => rfl
      | some k => rw [lback t k hk] at hc; cases hc
  have rcut : cutR ρn (H (i + 1)) = ρ' := by
    funext b
    unfold cutR
    split
    · rename_i hb; exact rn1 b hb
    · rename_i hb
      cases h : ρ' b with
      | none => rfl
      | some pl => exact absurd (rlt b pl h) hb
  have freeS : ∀ {j : Nat}, Free hf p z (fun k => k == i || S k) j → Free hf p z S j := fun {j} h y y1 y2 y3 y4 => by
    have := h y y1 y2 y3 y4
    simp only [Bool.or_eq_false_iff] at this
    exact this.2
  have after : ∀ j, i < j → j ≤ z → Free hf p z S j → HRel (cutR ρn (H j)) (H j) w' ∧ LRel (cutR ρn (H j)) lm' (L j) (H j) w' ∧ cutL lm (L j) = lm' := fun j h1 h2 hfr => by
    obtain ⟨m1, m2, m3⟩ := mono (j := i + 1) (j' := j) (by omega) h1 h2
    have el : cutL lm (L j) = lm' := by
      rw [← lcut]
      funext t
      obtain ⟨d, rfl⟩ := Nat.le.dest (show i + 1 ≤ j by omega)
      have e := s.lnone run hp hz hhf t d h2
      rw [hL1] at e
      unfold cutL
      by_cases hn : (L i).getD t .none = .none
      · rw [hn, e.2 hn]
      · have hn' : ¬ (L (i + 1 + d)).getD t .none = .none := fun h => hn (e.1 h)
        rw [if_neg (fun h => hn (LBlk.isNone_iff.1 h)), if_neg (fun h => hn' (LBlk.isNone_iff.1 h))]
    have q1w := q1.weaken m2 fun b x hx ht => seg_tys' run s (i := i + 1) (j := j) (by omega) h1 h2 ht hx
    have q2w : LRel ρ' lm' (L j) (H j) w' := q2.weaken q1 m2 fun t ht => by
      rw [← hL1] at ht ⊢
      exact m3 t ht
    obtain ⟨r1, r2⟩ := inv.rel j (by omega) h2 hfr
    rw [el] at r2
    have sub1 : ∀ b pl, ρ' b = some pl → cutR ρn (H j) b = some pl := fun b pl hb => cutR_some.2 ⟨by have := rlt b pl hb; omega, rle b pl hb⟩
    have sub2 : ∀ b pl, cutR ρ (H j) b = some pl → cutR ρn (H j) b = some pl := fun b pl hb => by
      rw [cutR_some] at hb ⊢; exact ⟨hb.1, rsub b pl hb.2⟩
    -- a place is one of its own, or of a maker behind it
    have split : ∀ b pl, cutR ρn (H j) b = some pl → ρ' b = some pl ∨ (cutR ρ (H j) b = some pl ∧ (H (i + 1)).length ≤ b) := fun b pl hb => by
      obtain ⟨g1, g2⟩ := cutR_some.1 hb
      rcases Nat.lt_or_ge b (H (i + 1)).length with h | h
      · rw [rn1 b h] at g2; exact .inl g2
      · rw [rn0 b h] at g2; exact .inr ⟨cutR_some.2 ⟨g1, g2⟩, h⟩
    have far : ∀ b pl x, cutR ρ (H j) b = some pl → (H (i + 1)).length ≤ b → (H j)[b]? = some x → x.live = true → ∀ b0 pl0 x0, ρ b0 = some pl0 → (H i)[b0]? = some x0 → x0.isRW = true → pl0.blk ≠ pl.blk := fun b pl x hb hl hx hv =>
      inv.sep i hp hz hhf hS j b pl x h1 h2 (cutR_some.1 hb).2 hl hx hv
    have sep2 : ∀ b b' pl pl' x x', cutR ρ (H j) b = some pl → (H (i + 1)).length ≤ b → (H j)[b]? = some x → x.live = true → ρ' b' = some pl' → (H j)[b']? = some x' → x'.live = true → (x.isRW = true ∨ x'.isRW = true) → pl.blk ≠ pl'.blk := fun b b' pl pl' x x' hb hl hx hv hb' hx' hv' hrw => by
      have hlt : pl.blk < w.heap.size := by
        obtain ⟨y, hy, hB⟩ := r1.blk b pl hb
        rw [hx] at hy
        injection hy with hy
        subst hy
        exact hB.lt hv
      have hsd := m2 b' (rlt b' pl' hb')
      rw [hx'] at hsd
      have hx1 := hsd.back (Blk.ne_dead_live hv')
      cases hrw' : x'.isRW with
      | true =>
        rcases q4.prov b' pl' x' hb' hx1 hrw' with g | ⟨b0, pl0, x0, g1, g2, g3, g4⟩
        · omega
        · rw [← g4]
          exact (far b pl x hb hl hx hv b0 pl0 x0 (cutR_some.1 g1).2 g2 g3).symm
      | false =>
        have hro : x'.isRO = true := (Blk.live_cases hv').resolve_left (by rw [hrw']; simp)
        have hx0 := q4.rob b' x' hx1 hro
        have hbi := (List.getElem?_eq_some_iff.1 hx0).1
        cases hc : cutR ρ (H i) b' with
        | none =>
          have := q4.new b' hc (by rw [hb']; simp)
          omega
        | some pl0 =>
          have := q4.ext b' pl0 hc
          rw [hb'] at this
          injection this with this
          subst this
          exact r1.dis b b' pl pl' x x' hb (cutR_some.2 ⟨(List.getElem?_eq_some_iff.1 hx').1, (cutR_some.1 hc).2⟩) hx hx' (by omega) hv hv' (hrw.resolve_right (by rw [hrw']; simp))
    refine ⟨⟨fun b pl hb => ?_, fun b b' pl pl' x x' hb hb' hx hx' hne hl hl' hr => ?_, q1w.tys.mono sub1⟩, ⟨fun t k hk => ?_, q2w.inj, fun t k b pl x hk hb hx hl => ?_⟩, el⟩
    · rcases split b pl hb with h | ⟨h, h'⟩
      · obtain ⟨x, hx, hB⟩ := q1w.blk b pl h
        exact ⟨x, hx, hB.mono sub1 fun _ => rfl⟩
      · obtain ⟨x, hx, hB⟩ := r1.blk b pl h
        refine ⟨x, hx, hB.mono sub2 fun hv => ?_⟩
        exact q4.unch pl.blk (hB.lt hv) (fun b0 pl0 x0 g1 g2 g3 => far b pl x h h' hx hv b0 pl0 x0 (cutR_some.1 g1).2 g2 g3) fun t ht => by
          rw [lcut] at ht
          exact absurd rfl (r2.apart t pl.blk b pl x ht h hx hv)
    · rcases split b pl hb with h | ⟨h, h'⟩ <;> rcases split b' pl' hb' with g | ⟨g, g'⟩
      · exact q1w.dis b b' pl pl' x x' h g hx hx' hne hl hl' hr
      · exact (sep2 b' b pl' pl x' x g g' hx' hl' h hx hl (.inr hr)).symm
      · exact sep2 b b' pl pl' x x' h h' hx hl g hx' hl' (.inl hr)
      · exact r1.dis b b' pl pl' x x' h g hx hx' hne hl hl' hr
    · obtain ⟨g1, g2⟩ := q2w.loc t k hk
      exact ⟨g1, g2.mono sub1 rfl⟩
    · rcases split b pl hb with h | ⟨h, h'⟩
      · exact q2w.apart t k b pl x hk h hx hl
      · exact r2.apart t k b pl x hk h hx hl
  have dnone : ∀ t k ok, o.dst = some t → p ≤ k → k < z → S k = true → ops[k]? = some ok → ok.dst ≠ some t := fun t k ok ht k1 k2 k3 k4 k5 => by
    rcases Nat.lt_trichotomy k i with h | h | h
    · exact absurd ht ((good.two k i ok o k4 hi (by omega) h (fun m m1 m2 => s.quiet m (by omega) (by omega))).2 t k5)
    · subst h; rw [hS] at k3; cases k3
    · exact absurd k5 ((good.two i k o ok hi k4 (by omega) h (fun m m1 m2 => s.quiet m (by omega) (by omega))).2 t ht)
  -- where the memory that can be written comes from
  have provI : ∀ b pl x, cutR ρ (H i) b = some pl → (H i)[b]? = some x → x.isRW = true → w0.heap.size ≤ pl.blk ∨ ∃ b0 pl0 x0, ρ0 b0 = some pl0 ∧ (H p)[b0]? = some x0 ∧ x0.isRW = true ∧ pl0.blk = pl.blk := fun b pl x hb hx hr => by
    have hb' := (cutR_some.1 hb).2
    cases h0 : ρ0 b with
    | none => exact inv.prov i b pl x hp (by omega) fi hb' h0 hx hr
    | some pl0 =>
      have := inv.ext b pl0 h0
      rw [hb'] at this
      injection this with this
      subst this
      have hsd := (mono (j := p) (j' := i) (by omega) hp (by omega)).2.1 b (base.r b pl h0)
      rw [hx] at hsd
      exact .inr ⟨b, pl, x, h0, hsd.back (Blk.ne_dead_rw hr), hr, rfl⟩
  have halfs : ∀ y, p ≤ y → y < z → hf y = true → S y = false → y ≠ i → i < y := fun y y1 y2 y3 y4 y5 => by
    rcases Nat.lt_or_ge i y with h | h
    · exact h
    · have := ((s.half i hp hz hhf).1 y y1 (by omega)).inS hi cl hedge
      rw [y4] at this; cases this
  refine ⟨fun b pl hb => rsub b pl (inv.ext b pl hb), inv.lext, fun b hb hb0 => ?_, fun t kk hk hk0 => ?_, fun j b pl x hj1 hj2 hfr hb hb0 hx' hr => ?_, fun y hy1 hy2 hy3 hy4 j b pl x hyj hjz hb hlb hx' hl b0 pl0 x0 hb0 hx0 hr0 => ?_, fun k b x k1 k2 k3 hb hx' => ?_,
    fun j hj1 hj2 hfr => ?_, fun y lr hr hy1 hy2 hy3 hy4 hy5 => ?_, by rw [actput_size]; exact inv.size, by rw [actput_defers]; exact inv.defers, fun t v hv => ?_, q4.os.trans inv.os, q4.tape.trans inv.tape, q4.output.trans inv.output, Nat.le_trans inv.hsize q4.size,
    fun k hk o1 o2 => ?_⟩
  · cases h : ρ b with
    | some pl =>
      obtain ⟨k, k1, k2, k3, k4⟩ := inv.newR b (by rw [h]; simp) hb0
      exact ⟨k, k1, k2, by simp [k3], k4⟩
    | none =>
      have hb : ρn b ≠ none := hb
      rcases Nat.lt_or_ge b (H (i + 1)).length with hl | hl
      · rw [rn1 b hl] at hb
        exact ⟨i, hp, hz, by simp, q4.new b (by simp [cutR, h]) hb, hl⟩
      · rw [rn0 b hl] at hb
        exact absurd h hb
  · obtain ⟨g1, k, ok, k1, k2, k3, k4⟩ := inv.newL t kk hk hk0
    exact ⟨g1, k, ok, k1, k2, by simp [k3], k4⟩
  · have hb : ρn b = some pl := hb
    rcases Nat.lt_or_ge b (H (i + 1)).length with hl | hl
    · rw [rn1 b hl] at hb
      have hx' : (H (i + 1))[b]? = some x := by
        have g := (mono (j := i + 1) (j' := j) (by omega) (beyond j hfr) hj2).2.1 b (rlt b pl hb)
        rw [hx'] at g
        exact g.back (Blk.ne_dead_rw hr)
      rcases q4.prov b pl x hb hx' hr with h | ⟨b0, pl0, x0, g1, g2, g3, g4⟩
      · exact .inl (Nat.le_trans inv.hsize h)
      · rw [← g4]
        exact provI b0 pl0 x0 g1 g2 g3
    · rw [rn0 b hl] at hb
      exact inv.prov j b pl x hj1 hj2 (freeS hfr) hb hb0 hx' hr
  · exfalso
    simp only [Bool.or_eq_false_iff, beq_eq_false_iff_ne] at hy4
    obtain ⟨hyi, hSy⟩ := hy4
    have hiy := halfs y hy1 hy2 hy3 hSy hyi
    have hb : ρn b = some pl := hb
    have := (mono (j := i + 1) (j' := y) (by omega) hiy (by omega)).1
    have := (mono (j := y) (j' := y + 1) (by omega) (by omega) (by omega)).1
    rw [rn0 b (by omega)] at hb
    have hb00 : ρ0 b = none := by
      cases h : ρ0 b with
      | none => rfl
      | some pl0 =>
        have := base.r b pl0 h
        have := (mono (j := p) (j' := y) (by omega) hy1 (by omega)).1
        omega
    obtain ⟨k, k1, k2, k3, k4, k5⟩ := inv.newR b (by rw [hb]; simp) hb00
    have hyk : y < k := by
      rcases Nat.lt_or_ge y k with h | h
      · exact h
      · have := (mono (j := k + 1) (j' := y + 1) (by omega) (by omega) (by omega)).1
        omega
    cases hk : hf k with
    | true =>
      obtain ⟨ok, hok⟩ := s.get k2
      have := ((s.half k k1 k2 hk).1 y hy1 hyk).inS hok cl fun m hm => cl k ok m k3 hok hm
      rw [hSy] at this; cases this
    | false =>
      rcases (((s.half y hy1 hy2 hy3).2 k hyk k2).1 hk).2 with g | ⟨g, _⟩
      · rw [g] at k5; omega
      · exact hyi (g i hp hz hhf).symm
  · simp only [Bool.or_eq_true, beq_iff_eq] at k3
    by_cases e : k = i
    · subst e
      cases hr : x.isRO with
      | false => rfl
      | true =>
        have := (List.getElem?_eq_some_iff.1 (q4.rob b x hx' hr)).1
        omega
    · exact inv.nro k b x k1 k2 (k3.resolve_left e) hb hx'
  · obtain ⟨a1, a2, a3⟩ := after j (beyond j hfr) hj2 (freeS hfr)
    rw [a3]
    exact ⟨a1, a2⟩
  · exfalso
    rcases Nat.lt_trichotomy y i with h | h | h
    · have := (s.last run hy1 hy4 hy5 (i - y) (by omega)).1 i h (by omega)
      rw [hhf] at this; cases this
    · rw [h, hD] at hy5; cases hy5
    · have := fi y hy4 hy1 hy2 (by omega)
      simp only [Bool.or_eq_true, beq_iff_eq] at hy3
      rcases hy3 with h3 | h3
      · omega
      · rw [this] at h3; cases h3
  · rw [actput_get] at hv
    by_cases hd : o.dst = some t ∧ t < a.tmps.size
    · rw [if_pos hd] at hv
      injection hv with hv
      subst hv
      refine ⟨fun k ok k1 k2 k3 k4 k5 => ?_, fun h => absurd hd.1 (h i o hp hz (by simp) hi)⟩
      simp only [Bool.or_eq_true, beq_iff_eq] at k3
      by_cases e : k = i
      · subst e
        show VRel (cutR ρn (H (k + 1))) (cutL lm (L (k + 1))) (V k) cv
        rw [rcut, hL1, lcut]
        exact q3
      · exact absurd k5 (dnone t k ok hd.1 k1 k2 (k3.resolve_left e) k4)
    · rw [if_neg hd] at hv
      have hd' : o.dst ≠ some t := fun h => hd ⟨h, (Array.getElem?_eq_some_iff.1 hv).1⟩
      obtain ⟨c1, c2⟩ := inv.act t v hv
      refine ⟨fun k ok k1 k2 k3 k4 k5 => ?_, fun h => c2 fun k ok k1 k2 k3 => h k ok k1 k2 (by simp [k3])⟩
      simp only [Bool.or_eq_true, beq_iff_eq] at k3
      by_cases e : k = i
      · subst e
        rw [hi] at k4
        injection k4 with k4
        subst k4
        exact absurd k5 hd'
      · exact (c1 k ok k1 k2 (k3.resolve_left e) k4 k5).mono (fun b pl hb => by rw [cutR_some] at hb ⊢; exact ⟨hb.1, rsub b pl hb.2⟩) (fun _ _ h => h)
  · rw [q4.unch k (Nat.lt_of_lt_of_le hk inv.hsize) (fun b pl x hb hx hr => by
      rcases provI b pl x hb hx hr with h | ⟨b0, pl0, x0, g1, g2, g3, g4⟩
      · omega
      · rw [← g4]; exact o1 b0 pl0 x0 g1 g2 g3) (fun t ht => by
      obtain ⟨t1, t2⟩ := cutL_some.1 ht
      cases h0 : lm0 t with
      | none => have := (inv.newL t k t2 h0).1; omega
      | some k0 =>
        have := inv.lext t k0 h0
        rw [t2] at this
        injection this with this
        subst this
        exact ((mono (j := p) (j' := i) (by omega) hp (by omega)).2.2 t (base.l t k h0)).ro (o2 t h0)), inv.old k hk o1 o2]
/-- The deep half bar has run. -/
theorem inv_deep {h : Nat} (hhp : h ≤ p) (run : RunOf P T mk ops q hf E L H D V) (good : Good ops h q) (s : Seg ops q hf L H D p z) (base : Base T L H p ρ0 lm0) (inv : Inv T ds ops hf E L H D V p z ρ0 lm0 w0 S ρ lm a w)
    (cl : Closed ops S) {i : Nat} {o : Oper} (hi : ops[i]? = some o) (hp : p ≤ i) (hz : i < z) (hS : S i = false) (hhf : hf i = true) (hedge : ∀ m, hasEdge o m = true → S m = true)
    {lr : Locs} {hr : Heap} (hD : D (i + 1) = some (lr, hr))
    {ρ' : Mp} {lm' : Lp} {w' : World} {cv : Value} (q1 : HRel ρ' hr w') (q2 : LRel ρ' lm' lr hr w') (q3 : VRel ρ' lm' (V i) cv)
    (q4 : Step (cutR ρ (H i)) (cutL lm (L i)) (L i) (H i) w ρ' lm' lr hr w') (q5 : LExt (cutL lm (L i)) lm' (L i) w o.dst) :
    Inv T ds ops hf E L H D V p z ρ0 lm0 w0 (fun k => k == i || S k) ρ' lm (a.put o.dst cv) w' := by
  have mono : ∀ {j j' : Nat}, p ≤ j → j ≤ j' → j' ≤ z → _ := fun {j j'} h1 h2 h3 => seg_mono' run s (i := j) (j := j') h1 h2 h3
  have hh := s.hide run hp hz hhf hD
  have hlen : (H (i + 1)).length = (H i).length := hh.len2
  have fi := free_at s cl hp hS
  have after : ∀ j, i < j → j ≤ z → L j = L (i + 1) ∧ H j = H (i + 1) := fun j h1 h2 => by
    obtain ⟨d, rfl⟩ := Nat.le.dest (show i + 1 ≤ j by omega)
    obtain ⟨g1, g2⟩ := s.after run hp hz hhf hD d h2
    exact ⟨g1, g2⟩
  have beyond : ∀ j, Free hf p z (fun k => k == i || S k) j → i < j := fun j hj => by
    rcases Nat.lt_or_ge i j with h | h
    · exact h
    · have := hj i hhf hp hz h
      simp at this
  have rold : ∀ b pl, ρ b = some pl → b < (H i).length := fun b pl hb => by
    cases hb0 : ρ0 b with
    | some pl0 =>
      have := base.r b pl0 hb0
      have := (mono (j := p) (j' := i) (by omega) hp (by omega)).1
      omega
    | none =>
      obtain ⟨k, k1, k2, k3, k4, k5⟩ := inv.newR b (by rw [hb]; simp) hb0
      rcases Nat.lt_trichotomy k i with h | h | h
      · have := (mono (j := k + 1) (j' := i) (by omega) (by omega) (by omega)).1
        omega
      · subst h; rw [hS] at k3; cases k3
      · cases hk : hf k with
        | true =>
          have := fi k hk k1 k2 (by omega)
          rw [k3] at this; cases this
        | false =>
          rw [((((s.half i hp hz hhf).2 k h k2).1 hk).2).resolve_right fun hh => by rw [hh.2, s.dy run hp hz hhf] at hD; cases hD] at k5
          omega
  have rsub : ∀ b pl, ρ b = some pl → ρ' b = some pl := fun b pl hb => q4.ext b pl (cutR_some.2 ⟨rold b pl hb, hb⟩)
  have rlt : ∀ b pl, ρ' b = some pl → b < (H (i + 1)).length := fun b pl hb => by
    obtain ⟨x, hx', _⟩ := q1.blk b pl hb
    have := (List.getElem?_eq_some_iff.1 hx').1
    rw [hlen, ← hh.len1]
    exact this
  have lback : ∀ t k, lm' t = some k → cutL lm (L i) t = some k := fun t k hk => by
    cases hc : cutL lm (L i) t with
    | some k0 =>
      have := q5.1 t k0 hc
      rw [hk] at this
      injection this with this
      rw [this]
    | none =>
      obtain ⟨_, h2, _⟩ := q5.2 t k hc hk
      have := (q2.loc t k hk).2
      have e0 : (L i).getD t .none = .none := by rw [List.getD, h2]; rfl
      rcases hh.loc t with ⟨k1, _⟩ | ⟨⟨cs, k1⟩, _⟩
      · rw [k1, e0] at this
        exact this.elim
      · rw [k1] at e0; cases e0
  have lcut : cutL lm (L i) = lm' := by
    funext t
    cases hc : cutL lm (L i) t with
    | some k => exact (q5.1 t k hc).symm
    | none =>
      cases hk : lm' t with
      | none => rfl
      | some k => rw [lback t k hk] at hc; cases hc
  have rcut : cutR ρ' (H (i + 1)) = ρ' := by
    funext b
    cases hb : ρ' b with
    | none => unfold cutR; split <;> first | exact hb | rfl
    | some pl => exact cutR_some.2 ⟨rlt b pl hb, hb⟩
  have rcut' : cutR ρ' hr = ρ' := by
    funext b
    cases hb : ρ' b with
    | none => unfold cutR; split <;> first | exact hb | rfl
    | some pl => exact cutR_some.2 ⟨by rw [hh.len1, ← hlen]; exact rlt b pl hb, hb⟩
  have lcutV : cutL lm (L (i + 1)) = cutL lm (L i) := by
    funext t
    unfold cutL
    rcases hh.loc t with ⟨_, k2⟩ | ⟨⟨cs, k1⟩, _, k3⟩
    · rw [k2]
    · rw [k1, k3]; rfl
  have lcutR : cutL lm lr = cutL lm (L i) := by
    funext t
    unfold cutL
    rcases hh.loc t with ⟨k2, _⟩ | ⟨⟨cs, k1⟩, ⟨ds, k3⟩, _⟩
    · rw [k2]
    · rw [k1, k3]; rfl
  have view : ∀ (b : Nat) (x : Blk), (H (i + 1))[b]? = some x → hr[b]? = some x ∨ x = .row [] .dead := fun b x hx => by
    rcases hh.blk b with ⟨k1, k2⟩ | ⟨_, _, k3⟩
    · rw [k2, ← k1] at hx; exact .inl hx
    · rw [k3] at hx; injection hx with hx; exact .inr hx.symm
  have dnone : ∀ t k ok, o.dst = some t → p ≤ k → k < z → S k = true → ops[k]? = some ok → ok.dst ≠ some t := fun t k ok ht k1 k2 k3 k4 k5 => by
    rcases Nat.lt_trichotomy k i with h | h | h
    · exact absurd ht ((good.two k i ok o k4 hi (by omega) h (fun m m1 m2 => s.quiet m (by omega) (by omega))).2 t k5)
    · subst h; rw [hS] at k3; cases k3
    · exact absurd k5 ((good.two i k o ok hi k4 (by omega) h (fun m m1 m2 => s.quiet m (by omega) (by omega))).2 t ht)
  -- where the memory that can be written comes from
  have provI : ∀ b pl x, cutR ρ (H i) b = some pl → (H i)[b]? = some x → x.isRW = true → w0.heap.size ≤ pl.blk ∨ ∃ b0 pl0 x0, ρ0 b0 = some pl0 ∧ (H p)[b0]? = some x0 ∧ x0.isRW = true ∧ pl0.blk = pl.blk := fun b pl x hb hx hr => by
    have hb' := (cutR_some.1 hb).2
    cases h0 : ρ0 b with
    | none => exact inv.prov i b pl x hp (by omega) fi hb' h0 hx hr
    | some pl0 =>
      have := inv.ext b pl0 h0
      rw [hb'] at this
      injection this with this
      subst this
      have hsd := (mono (j := p) (j' := i) (by omega) hp (by omega)).2.1 b (base.r b pl h0)
      rw [hx] at hsd
      exact .inr ⟨b, pl, x, h0, hsd.back (Blk.ne_dead_rw hr), hr, rfl⟩
  refine ⟨fun b pl hb => rsub b pl (inv.ext b pl hb), inv.lext, fun b hb hb0 => ?_, fun t kk hk hk0 => ?_, fun j b pl x hj1 hj2 hfr hb hb0 hx' hrw => ?_, fun y hy1 hy2 hy3 hy4 => ?_, fun k b x k1 k2 k3 hb hx' => ?_,
    fun j hj1 hj2 hfr => ?_, fun y lr' hr' hy1 hy2 hy3 hy4 hy5 => ?_, by rw [actput_size]; exact inv.size, by rw [actput_defers]; exact inv.defers, fun t v hv => ?_, q4.os.trans inv.os, q4.tape.trans inv.tape, q4.output.trans inv.output, Nat.le_trans inv.hsize q4.size,
    fun k hk o1 o2 => ?_⟩
  · cases h : ρ b with
    | some pl =>
      obtain ⟨k, k1, k2, k3, k4⟩ := inv.newR b (by rw [h]; simp) hb0
      exact ⟨k, k1, k2, by simp [k3], k4⟩
    | none =>
      cases h' : ρ' b with
      | none => exact absurd h' hb
      | some pl => exact ⟨i, hp, hz, by simp, q4.new b (by simp [cutR, h]) hb, rlt b pl h'⟩
  · obtain ⟨g1, k, ok, k1, k2, k3, k4⟩ := inv.newL t kk hk hk0
    exact ⟨g1, k, ok, k1, k2, by simp [k3], k4⟩
  · rw [(after j (beyond j hfr) hj2).2] at hx'
    have hx'' := (view b x hx').resolve_right (fun e => by rw [e] at hrw; cases hrw)
    rcases q4.prov b pl x hb hx'' hrw with h | ⟨b0, pl0, x0, g1, g2, g3, g4⟩
    · exact .inl (Nat.le_trans inv.hsize h)
    · rw [← g4]
      exact provI b0 pl0 x0 g1 g2 g3
  · exfalso
    simp only [Bool.or_eq_false_iff, beq_eq_false_iff_ne] at hy4
    rcases Nat.lt_trichotomy y i with h | h | h
    · have := ((s.half i hp hz hhf).1 y hy1 h).inS hi cl hedge
      rw [hy4.2] at this; cases this
    · exact hy4.1 h
    · have := (s.last run hp hhf hD (y - i) (by omega)).1 y h (by omega)
      rw [hy3] at this; cases this
  · simp only [Bool.or_eq_true, beq_iff_eq] at k3
    by_cases e : k = i
    · subst e
      have := (List.getElem?_eq_some_iff.1 hx').1
      omega
    · exact inv.nro k b x k1 k2 (k3.resolve_left e) hb hx'
  · obtain ⟨a1, a2⟩ := after j (beyond j hfr) hj2
    rw [a1, a2, rcut, lcutV, lcut]
    refine ⟨⟨fun b pl hb => ?_, fun b b' pl pl' x x' hb hb' hx1 hx2 hne hl hl' hrw => ?_, fun j b t sz hj => q1.tys j b t sz ((view j _ hj).resolve_right (fun e => by cases e))⟩, ⟨fun t kk hk => ?_, q2.inj, fun t kk b pl x hk hb hx1 hl => ?_⟩⟩
    · obtain ⟨x, hx, hB⟩ := q1.blk b pl hb
      rcases hh.blk b with ⟨k1, k2⟩ | ⟨_, _, k3⟩
      · exact ⟨x, by rw [k2, ← k1]; exact hx, hB⟩
      · exact ⟨_, k3, trivial⟩
    · exact q1.dis b b' pl pl' x x' hb hb' ((view b x hx1).resolve_right (Blk.ne_dead_live hl)) ((view b' x' hx2).resolve_right (Blk.ne_dead_live hl')) hne hl hl' hrw
    · obtain ⟨g1, g2⟩ := q2.loc t kk hk
      refine ⟨g1, ?_⟩
      rcases hh.loc t with ⟨k1, k2⟩ | ⟨_, _, k3⟩
      · rw [k2, ← k1]; exact g2
      · rw [k3]; trivial
    · exact q2.apart t kk b pl x hk hb ((view b x hx1).resolve_right (Blk.ne_dead_live hl)) hl
  · obtain rfl : y = i := by
      rcases Nat.lt_trichotomy y i with h | h | h
      · have := (s.last run hy1 hy4 hy5 (i - y) (by omega)).1 i h (by omega)
        rw [hhf] at this; cases this
      · exact h
      · have := (s.last run hp hhf hD (y - i) (by omega)).1 y h (by omega)
        rw [hy4] at this; cases this
    rw [hD] at hy5
    injection hy5 with hy5
    injection hy5 with e1 e2
    subst e1; subst e2
    rw [rcut', lcutR, lcut]
    refine ⟨q1, q2, fun b pl x hb hb0 hxb hrw => ?_⟩
    rcases q4.prov b pl x hb hxb hrw with h | ⟨b0, pl0, x0, g1, g2, g3, g4⟩
    · exact .inl (Nat.le_trans inv.hsize h)
    · rw [← g4]
      exact provI b0 pl0 x0 g1 g2 g3
  · rw [actput_get] at hv
    by_cases hd : o.dst = some t ∧ t < a.tmps.size
    · rw [if_pos hd] at hv
      injection hv with hv
      subst hv
      refine ⟨fun k ok k1 k2 k3 k4 k5 => ?_, fun h => absurd hd.1 (h i o hp hz (by simp) hi)⟩
      simp only [Bool.or_eq_true, beq_iff_eq] at k3
      by_cases e : k = i
      · subst e
        rw [rcut, lcutV, lcut]
        exact q3
      · exact absurd k5 (dnone t k ok hd.1 k1 k2 (k3.resolve_left e) k4)
    · rw [if_neg hd] at hv
      have hd' : o.dst ≠ some t := fun h => hd ⟨h, (Array.getElem?_eq_some_iff.1 hv).1⟩
      obtain ⟨c1, c2⟩ := inv.act t v hv
      refine ⟨fun k ok k1 k2 k3 k4 k5 => ?_, fun h => c2 fun k ok k1 k2 k3 => h k ok k1 k2 (by simp [k3])⟩
      simp only [Bool.or_eq_true, beq_iff_eq] at k3
      by_cases e : k = i
      · subst e
        rw [hi] at k4
        injection k4 with k4
        subst k4
        exact absurd k5 hd'
      · exact (c1 k ok k1 k2 (k3.resolve_left e) k4 k5).mono (fun b pl hb => by rw [cutR_some] at hb ⊢; exact ⟨hb.1, rsub b pl hb.2⟩) (fun _ _ h => h)
  · rw [q4.unch k (Nat.lt_of_lt_of_le hk inv.hsize) (fun b pl x hb hx hrw => by
      rcases provI b pl x hb hx hrw with h | ⟨b0, pl0, x0, g1, g2, g3, g4⟩
      · omega
      · rw [← g4]; exact o1 b0 pl0 x0 g1 g2 g3) (fun t ht => by
      obtain ⟨t1, t2⟩ := cutL_some.1 ht
      cases h0 : lm0 t with
      | none => have := (inv.newL t k t2 h0).1; omega
      | some k0 =>
        have := inv.lext t k0 h0
        rw [t2] at this
        injection this with this
        subst this
        exact ((mono (j := p) (j' := i) (by omega) hp (by omega)).2.2 t (base.l t k h0)).ro (o2 t h0)), inv.old k hk o1 o2]
end
end Go.Abs
namespace Go.Abs
open Go
variable {ds : List Deferred}

section
variable {P : Program} {T : Tab} {mk : Oper → Bool} {ops : Array Oper} {q hf : Nat → Bool} {E : Nat → Env} {L : Nat → Locs} {H : Nat → Heap} {D : Nat → Option (Locs × Heap)} {V : Nat → AVal}
  {p z : Nat} {ρ0 : Mp} {lm0 : Lp} {w0 : World} {S : Nat → Bool} {ρ : Mp} {lm : Lp} {a : Act} {w : World}

theorem looks_tmp {o : Oper} {t : Nat} (h : Operand.tmp t ∈ o.op.operands.toList) : t ∈ o.looksAt ops :=
  List.mem_append_left _ (List.mem_filterMap.2 ⟨.tmp t, h, rfl⟩)
theorem looks_guard {o : Oper} {g : Nat} {want : Bool} {d : Nat} (h : o.guard = some (g, want)) (hd : (ops[g]?).bind (·.dst) = some d) : d ∈ o.looksAt ops := by
  unfold Oper.looksAt
  refine List.mem_append_right _ ?_
  simp [h, hd]

theorem locs_back_frz (l : Locs) : l.back l.frz = l := by
  unfold Locs.frz
  induction l with
  | nil => rfl
  | cons x xs ih =>
    simp only [List.map_cons, Locs.back, ih]
    cases x <;> rfl
theorem heap_back_frz (σ : Heap) : σ.back σ.frz = σ := by
  unfold Heap.back
  rw [List.drop_of_length_le (by rw [Heap.frz_length]; omega), List.map_nil, List.append_nil]

theorem inv_step {h : Nat} (hhp : h ≤ p) (run : RunOf P T mk ops q hf E L H D V) (good : Good ops h q) (s : Seg ops q hf L H D p z) (base : Base T L H p ρ0 lm0) (inv : Inv T ds ops hf E L H D V p z ρ0 lm0 w0 S ρ lm a w)
    (cl : Closed ops S) {i : Nat} {o : Oper} (hi : ops[i]? = some o) (hp : p ≤ i) (hz : i < z) (hS : S i = false) (hedge : ∀ m, hasEdge o m = true → S m = true)
    {Q : Exit → Act → World → Prop} {K : Act → World → Prop}
    (hK : ∀ ρ' lm' a' w', Inv T ds ops hf E L H D V p z ρ0 lm0 w0 (fun k => k == i || S k) ρ' lm' a' w' → K a' w') : wpOp P ops Q i K a w := by
  have look : ∀ t v, t ∈ o.looksAt ops → a.tmps[t]? = some v → VRel (cutR ρ (H i)) (cutL lm (L i)) ((E i).getD t .undef) v := fun t v ht hv =>
    look_rel hhp run good s base inv cl hi hp (by omega) (fun _ => hS) hedge (fun h => by omega) (fun _ => ht) hv
  have hEl : a.tmps.size = (E i).length := by
    rw [inv.size]
    obtain ⟨d, rfl⟩ := Nat.le.dest hp
    exact (env_at run s 0 d (by omega)).1.symm
  have hglob : GRel T (cutR ρ (H i)) := fun g hg => by
    obtain ⟨gt, hn⟩ := base.glob g hg
    refine ⟨gt, cutR_some.2 ⟨?_, inv.ext _ _ hn⟩⟩
    have := base.r _ _ hn
    have := (seg_mono' run s (i := p) (j := i) (by omega) hp (by omega)).1
    omega
  have gval : ∀ g want d, o.guard = some (g, want) → (ops[g]?).bind (·.dst) = some d → (E i).getD d .undef ≠ .undef → ∃ v, a.tmps[d]? = some v ∧ VRel (cutR ρ (H i)) (cutL lm (L i)) ((E i).getD d .undef) v := fun g want d hg hd hne => by
    have hl : d < a.tmps.size := by
      rw [hEl]
      rcases Nat.lt_or_ge d (E i).length with h' | h'
      · exact h'
      · rw [List.getD, List.getElem?_eq_none h'] at hne; exact absurd rfl hne
    exact ⟨a.tmps[d], by simp [hl], look d _ (looks_guard hg hd) (by simp [hl])⟩
  obtain ⟨rH, rL⟩ := inv.rel i hp (by omega) (free_at s cl hp hS)
  obtain ⟨l1, σ1, st, nx⟩ := run.step i o hi
  rw [s.quiet i hp hz, atL_true, atH_true] at st nx
  have wt : Wanted ops o (E i) true → Region.wanted o (yielded ops a.tmps) = true := fun hw => wanted_true hw fun g want d hg hd he => by
    obtain ⟨u, e1, r1⟩ := gval g want d hg hd (by rw [he]; simp)
    rw [he] at r1
    simp only [VRel] at r1
    rw [e1, r1]
  have wf : Wanted ops o (E i) false → ¬ Region.wanted o (yielded ops a.tmps) = true := fun hw => by
    rw [wanted_false hw fun g want d hg hd x hx he => ?_]
    · simp
    · obtain ⟨u, e1, r1⟩ := gval g want d hg hd (by rw [he]; rcases hx with rfl | ⟨b, rfl⟩ <;> simp)
      refine ⟨u, e1, ?_⟩
      rw [he] at r1
      rcases hx with rfl | ⟨b, rfl⟩ <;> simpa [VRel] using r1
  unfold wpOp
  simp only [hi]
  cases hhf : hf i with
  | true =>
    rw [hhf] at st nx
    rcases nx with ⟨hk, n1, n2, n3⟩ | ⟨_, _, _, hh, n3, _⟩
    · have hD : D (i + 1) = none := by rw [n3, s.dy run hp hz hhf]; rfl
      obtain ⟨hL, _⟩ := hk rfl rfl
      have hL1 : L (i + 1) = L i := by rw [n1, hL]
      rcases st with ⟨hw, h1⟩ | ⟨hw, hv, e1, e2⟩
      · rw [if_pos (wt hw)]
        rw [← n2, hL] at h1
        refine .inl (h1 _ _ a w rH rL hglob (fun x hx => opnd_rel hEl hglob x fun t v hxt hv => look t v (looks_tmp (hxt ▸ hx)) hv) _ _ fun cv w' ρ' lm' q1 q2 q3 q4 q5 => ?_)
        exact hK _ _ _ _ (inv_half hhp run good s base inv cl hi hp hz hS hhf hedge hL1 hD q1 q2 q3 q4 q5)
      · rw [if_neg (wf hw)]
        have hH1 : H (i + 1) = H i := by rw [n2, e2]
        exact hK _ _ _ _ (inv_half (cv := Go.undef) hhp run good s base inv cl hi hp hz hS hhf hedge hL1 hD (by rw [hH1]; exact rH) (by rw [hH1]; exact rL) (by rw [hv]; simp [VRel]) (by rw [hH1]; exact Step.refl ..) (LExt.refl ..))
    · rcases st with ⟨hw, h1⟩ | ⟨hw, hv, e1, e2⟩
      · rw [if_pos (wt hw)]
        refine .inl (h1 _ _ a w rH rL hglob (fun x hx => opnd_rel hEl hglob x fun t v hxt hv => look t v (looks_tmp (hxt ▸ hx)) hv) _ _ fun cv w' ρ' lm' q1 q2 q3 q4 q5 => ?_)
        exact hK _ _ _ _ (inv_deep hhp run good s base inv cl hi hp hz hS hhf hedge n3 q1 q2 q3 q4 q5)
      · rw [if_neg (wf hw)]
        exact hK _ _ _ _ (inv_deep (cv := Go.undef) hhp run good s base inv cl hi hp hz hS hhf hedge n3 (by rw [e2]; exact rH) (by rw [e1, e2]; exact rL) (by rw [hv]; simp [VRel]) (by rw [e1, e2]; exact Step.refl ..) (LExt.refl ..))
  | false =>
    rw [hhf] at st nx
    rcases nx with ⟨_, n1, n2, _⟩ | ⟨_, h, _⟩
    case inr => cases h
    rcases st with ⟨hw, l2, σ2, h1, hL1, hH1, _⟩ | ⟨hw, hv, hL1, hH1⟩
    · rw [if_pos (wt hw)]
      refine .inl (h1 _ _ a w rH.frz rL.frz hglob (fun x hx => opnd_rel hEl hglob x fun t v hxt hv => look t v (looks_tmp (hxt ▸ hx)) hv) _ _ fun cv w' ρ' lm' q1 q2 q3 q4 q5 => ?_)
      obtain ⟨ρn, lmn, h⟩ := inv_next hhp run good s base inv cl hi hp hz hS hhf (by rw [n1, hL1]) (by rw [n2, hH1]) q1 q2 q3 q4 q5
      exact hK ρn lmn _ _ h
    · rw [if_neg (wf hw)]
      obtain ⟨ρn, lmn, h⟩ := inv_next (cv := Go.undef) hhp run good s base inv cl hi hp hz hS hhf (l1 := (L i).frz) (σ1 := (H i).frz) (by rw [n1, hL1, locs_back_frz]) (by rw [n2, hH1, heap_back_frz]) rH.frz rL.frz (by rw [hv]; simp [VRel]) (Step.refl ..) (LExt.refl ..)
      exact hK ρn lmn _ _ h

/-- All of a stretch has run: what may be read. -/
theorem inv_view (run : RunOf P T mk ops q hf E L H D V) (s : Seg ops q hf L H D p z) (base : Base T L H p ρ0 lm0) (inv : Inv T ds ops hf E L H D V p z ρ0 lm0 w0 S ρ lm a w)
    (hall : ∀ k, p ≤ k → k < z → S k = true) : SRel T ds (cutR ρ (H z)) (cutL lm (L z)) (E z) (L z) (H z) a w ∧ Step ρ0 lm0 (L p) (H p) w0 (cutR ρ (H z)) (cutL lm (L z)) (L z) (H z) w := by
  obtain ⟨m1, m2, m3⟩ := seg_mono' run s (i := p) (j := z) (by omega) s.le (by omega)
  have fz : Free hf p z S z := fun y _ _ y3 y4 => by omega
  obtain ⟨rH, rL⟩ := inv.rel z s.le (by omega) fz
  have hEl : (E z).length = (E p).length := by
    obtain ⟨d, hd⟩ := Nat.le.dest s.le
    have := (env_at run s 0 d (by omega)).1
    rwa [hd] at this
  have hext : ∀ b pl, ρ0 b = some pl → cutR ρ (H z) b = some pl := fun b pl hb => cutR_some.2 ⟨by have := base.r b pl hb; omega, inv.ext b pl hb⟩
  have hlext : ∀ t k, lm0 t = some k → cutL lm (L z) t = some k := fun t k hk => cutL_some.2 ⟨(m3 t (base.l t k hk)).ne (base.l t k hk), inv.lext t k hk⟩
  refine ⟨⟨⟨by rw [inv.size, hEl], fun t v hv => ?_, inv.defers⟩, rH, rL, fun g hg => let ⟨t, ht⟩ := base.glob g hg; ⟨t, hext _ _ ht⟩⟩, ?_⟩
  · have hsz : t < (E p).length := by
      have := (Array.getElem?_eq_some_iff.1 hv).1
      rw [inv.size] at this
      exact this
    obtain ⟨c1, c2⟩ := inv.act t v hv
    obtain ⟨d, hd⟩ := Nat.le.dest s.le
    have := (env_at run s t d (by omega)).2
    rw [hd] at this
    rcases this with ⟨k, ok, k1, k2, k3, k4, k5⟩ | ⟨k1, k2⟩
    · rw [k5 hsz]
      obtain ⟨n1, n2, n3⟩ := seg_mono' run s (i := k + 1) (j := z) (by omega) (by omega) (by omega)
      exact (c1 k ok k1 k2 (hall k k1 k2) k3 k4).mono (fun b pl hb => by rw [cutR_some] at hb ⊢; exact ⟨by omega, hb.2⟩)
        (fun t k hk => by rw [cutL_some] at hk ⊢; exact ⟨(n3 t hk.1).ne hk.1, hk.2⟩)
    · rw [k2]
      exact (c2 fun k ok q1 q2 _ q3 => k1 k ok q1 q2 q3).mono hext hlext
  · refine ⟨inv.os, inv.tape, inv.output, inv.hsize, m1, hext, fun b h0 h1 => ?_, fun k hk o1 o2 => inv.old k hk o1 o2, fun b pl x hb hx hr => ?_, fun b x hb hr => ?_, fun b x hb hr => ?_, fun t k hk hr => ?_⟩
    · cases hc : cutR ρ (H z) b with
      | none => exact absurd hc h1
      | some pl =>
        obtain ⟨k, k1, k2, k3, k4, k5⟩ := inv.newR b (by rw [(cutR_some.1 hc).2]; simp) h0
        have := (seg_mono' run s (i := p) (j := k) (by omega) k1 (by omega)).1
        omega
    · have hb' := (cutR_some.1 hb).2
      cases h0 : ρ0 b with
      | none => exact inv.prov z b pl x s.le (Nat.le_refl _) fz hb' h0 hx hr
      | some pl0 =>
        have := inv.ext b pl0 h0
        rw [hb'] at this
        injection this with this
        subst this
        have hsd := m2 b (base.r b pl h0)
        rw [hx] at hsd
        exact .inr ⟨b, pl, x, h0, hsd.back (Blk.ne_dead_rw hr), hr, rfl⟩
    · have hsd := m2 b (List.getElem?_eq_some_iff.1 hb).1
      rw [hb] at hsd
      exact hsd.ro hr
    · -- where did it come from
      have key : ∀ d, p + d ≤ z → ∀ x, (H (p + d))[b]? = some x → x.isRO = true → (H p)[b]? = some x := fun d => by
        induction d with
        | zero => intro _ x hx _; exact hx
        | succ d ih =>
          intro hd x hx hr
          rcases Nat.lt_or_ge b (H (p + d)).length with h | h
          · refine ih (by omega) x ?_ hr
            have hsd := (seg_mono' run s (i := p + d) (j := p + (d + 1)) (by omega) (by omega) hd).2.1 b h
            rw [hx] at hsd
            exact hsd.back (Blk.ne_dead_ro hr)
          · have := inv.nro (p + d) b x (by omega) (by omega) (hall (p + d) (by omega) (by omega)) h hx
            rw [hr] at this
            cases this
      obtain ⟨d, hd⟩ := Nat.le.dest s.le
      exact key d (by omega) x (by rw [hd]; exact hb) hr
    · have hk' := cutL_some.1 hk
      cases h0 : lm0 t with
      | none => exact .inl (inv.newL t k hk'.2 h0).1
      | some k0 =>
        have := inv.lext t k0 h0
        rw [hk'.2] at this
        injection this with this
        subst this
        refine .inr ⟨t, h0, ?_⟩
        rw [(m3 t (base.l t k h0)).open hr] at hr
        exact hr

/-- All of a stretch has run: what is there. -/
theorem inv_done (run : RunOf P T mk ops q hf E L H D V) (s : Seg ops q hf L H D p z) (base : Base T L H p ρ0 lm0) (inv : Inv T ds ops hf E L H D V p z ρ0 lm0 w0 S ρ lm a w)
    (hall : ∀ k, p ≤ k → k < z → S k = true) : SRel T ds (cutR ρ (atH false (D z) (H z))) (cutL lm (atL false (D z) (L z))) (E z) (atL false (D z) (L z)) (atH false (D z) (H z)) a w ∧
      Step ρ0 lm0 (L p) (H p) w0 (cutR ρ (atH false (D z) (H z))) (cutL lm (atL false (D z) (L z))) (atL false (D z) (L z)) (atH false (D z) (H z)) w := by
  obtain ⟨v1, v2⟩ := inv_view run s base inv hall
  cases hd : D z with
  | none => exact ⟨v1, v2⟩
  | some pr =>
    obtain ⟨lr, hr⟩ := pr
    simp only [atL, atH]
    obtain ⟨y, y1, y2, y3, hdy⟩ : ∃ y, p ≤ y ∧ y < z ∧ hf y = true ∧ D (y + 1) = some (lr, hr) := by
      obtain ⟨d, hd'⟩ := Nat.le.dest s.le
      have := s.deep run d (by omega) (lr, hr) (by rw [hd', hd])
      rw [hd'] at this
      exact this
    obtain ⟨r1, r2, r3⟩ := inv.real y lr hr y1 y2 (hall y y1 y2) y3 hdy
    have hh := s.hide run y1 y2 y3 hdy
    obtain ⟨d, hd'⟩ := Nat.le.dest (show y + 1 ≤ z by omega)
    obtain ⟨g1, g2⟩ := s.after run y1 y2 y3 hdy d (by omega)
    rw [hd'] at g1 g2
    obtain ⟨m1, m2, m3⟩ := seg_mono' run s (i := p) (j := y) (by omega) y1 (by omega)
    have hlen : hr.length = (H z).length := by rw [g2, hh.len1, hh.len2]
    have e1 : cutR ρ hr = cutR ρ (H z) := by
      funext b
      unfold cutR
      rw [hlen]
    have e2 : cutL lm lr = cutL lm (L z) := by
      funext t
      unfold cutL
      rw [g1]
      rcases hh.loc t with ⟨k1, k2⟩ | ⟨_, ⟨ds, k2⟩, k3⟩
      · rw [k1, k2]
      · rw [k2, k3]; rfl
    rw [e1] at r1 r2
    rw [e2] at r2
    rw [e1, e2]
    refine ⟨⟨v1.act, r1, r2, v1.glob⟩, ⟨v2.os, v2.tape, v2.output, v2.size, by rw [hlen]; exact v2.len, v2.ext, v2.new, v2.unch, fun b pl x hb hx hrw => ?_, fun b x hb hro => ?_, fun b x hb hro => ?_, fun t k hk hro => ?_⟩⟩
    · have hb' := (cutR_some.1 hb).2
      cases h0 : ρ0 b with
      | none => exact r3 b pl x hb' h0 hx hrw
      | some pl0 =>
        have := inv.ext b pl0 h0
        rw [hb'] at this
        injection this with this
        subst this
        have hsd := m2 b (base.r b pl h0)
        rcases hh.blk b with ⟨k1, _⟩ | ⟨⟨cs, k1⟩, _, _⟩
        · rw [k1] at hx
          rw [hx] at hsd
          exact .inr ⟨b, pl, x, h0, hsd.back (Blk.ne_dead_rw hrw), hrw, rfl⟩
        · rw [k1] at hsd
          exact .inr ⟨b, pl, _, h0, hsd.back (Blk.ne_dead_rw rfl), rfl, rfl⟩
    · have hsd := m2 b (List.getElem?_eq_some_iff.1 hb).1
      rw [hb] at hsd
      have hy := hsd.ro hro
      rcases hh.blk b with ⟨k1, _⟩ | ⟨⟨cs, k1⟩, _, _⟩
      · rw [k1]; exact hy
      · rw [hy] at k1
        injection k1 with k1
        subst k1
        cases hro
    · rcases hh.blk b with ⟨k1, k2⟩ | ⟨_, ⟨ds, k2⟩, _⟩
      · refine v2.rob b x ?_ hro
        rw [g2, k2, ← k1]; exact hb
      · rw [hb] at k2
        injection k2 with k2
        subst k2
        cases hro
    · have hk' := cutL_some.1 hk
      cases h0 : lm0 t with
      | none => exact .inl (inv.newL t k hk'.2 h0).1
      | some k0 =>
        have := inv.lext t k0 h0
        rw [hk'.2] at this
        injection this with this
        subst this
        refine .inr ⟨t, h0, ?_⟩
        have hld := m3 t (base.l t k h0)
        rcases hh.loc t with ⟨k1, _⟩ | ⟨⟨cs, k1⟩, _, _⟩
        · rw [k1] at hro
          rw [hld.open hro] at hro
          exact hro
        · have := hld.open (by rw [k1]; rfl)
          rw [← this, k1]; rfl

/-- A stretch begins. -/
theorem inv_start (run : RunOf P T mk ops q hf E L H D V) (s : Seg ops q hf L H D p z) (hs : SRel T ds ρ0 lm0 (E p) (L p) (H p) a w0) (hS : ∀ k, p ≤ k → S k = false) :
    Base T L H p ρ0 lm0 ∧ Inv T ds ops hf E L H D V p z ρ0 lm0 w0 S ρ0 lm0 a w0 := by
  have hr : ∀ b pl, ρ0 b = some pl → b < (H p).length := fun b pl hb => let ⟨x, hx, _⟩ := hs.heap.blk b pl hb; (List.getElem?_eq_some_iff.1 hx).1
  have hl : ∀ t k, lm0 t = some k → (L p).getD t .none ≠ .none := fun t k hk h => by
    have := (hs.loc.loc t k hk).2
    rw [h] at this
    exact this
  refine ⟨⟨hr, hl, hs.glob⟩, ⟨fun _ _ h => h, fun _ _ h => h, fun b h h0 => absurd h0 h, fun t kk h h0 => (by rw [h] at h0; cases h0), fun _ b pl x _ _ _ h h0 => (by rw [h] at h0; cases h0), fun y hy1 hy2 _ _ j b pl x _ _ hb hlb => absurd (hr b pl hb) (by have := (seg_mono' run s (i := p) (j := y + 1) (by omega) (by omega) (by omega)).1; omega), fun k b x k1 k2 k3 => (by rw [hS k k1] at k3; cases k3),
    fun j hj1 hj2 _ => ?_, fun y lr hr y1 _ y3 => (by rw [hS y y1] at y3; cases y3), hs.act.size, hs.act.defers, fun t v hv => ⟨fun k o k1 k2 k3 => (by rw [hS k k1] at k3; cases k3), fun _ => hs.act.val t v hv⟩, rfl, rfl, rfl, Nat.le_refl _, fun _ _ _ _ => rfl⟩⟩
  obtain ⟨m1, m2, m3⟩ := seg_mono' run s (i := p) (j := j) (by omega) hj1 hj2
  have e1 : cutR ρ0 (H j) = ρ0 := by
    funext b
    unfold cutR
    split
    · rfl
    · cases h : ρ0 b with
      | none => rfl
      | some pl => have := hr b pl h; omega
  have e2 : cutL lm0 (L j) = lm0 := by
    funext t
    unfold cutL
    split
    · rename_i hn
      cases h : lm0 t with
      | none => rfl
      | some k =>
        have h1 := hl t k h
        rw [LBlk.isNone_iff] at hn
        exact absurd hn ((m3 t h1).ne h1)
    · rfl
  rw [e1, e2]
  refine ⟨⟨fun b pl hb => ?_, fun b b' pl pl' x x' hb hb' hx hx' => ?_, fun k b t sz hk => hs.heap.tys k b t sz (seg_tys' run s (Nat.le_refl _) hj1 hj2 rfl hk)⟩, ⟨fun t k hk => ?_, hs.loc.inj, fun t k b pl x hk hb hx => ?_⟩⟩
  · rcases m2 b (hr b pl hb) with h | ⟨h, _⟩
    · rw [h]; exact hs.heap.blk b pl hb
    · exact ⟨_, h, trivial⟩
  · intro hne hv hv' hrw
    have g := m2 b (hr b pl hb)
    have g' := m2 b' (hr b' pl' hb')
    rw [hx] at g
    rw [hx'] at g'
    exact hs.heap.dis b b' pl pl' x x' hb hb' (g.back (Blk.ne_dead_live hv)) (g'.back (Blk.ne_dead_live hv')) hne hv hv' hrw
  · obtain ⟨g1, g2⟩ := hs.loc.loc t k hk
    exact ⟨g1, (m3 t (hl t k hk)).one g2⟩
  · intro hv
    have g := m2 b (hr b pl hb)
    rw [hx] at g
    exact hs.loc.apart t k b pl x hk hb (g.back (Blk.ne_dead_live hv)) hv

theorem countP_lt {f g : Nat → Bool} (h : ∀ x, g x = true → f x = true) {i : Nat} (hf : f i = true) (hg : g i = false) : ∀ {l : List Nat}, i ∈ l → l.countP g < l.countP f
  | [], hm => by cases hm
  | x :: xs, hm => by
    have hle : ∀ l : List Nat, l.countP g ≤ l.countP f := fun l => List.countP_mono_left fun x _ => h x
    simp only [List.countP_cons]
    rcases List.mem_cons.1 hm with rfl | hm
    · rw [hf, hg]
      have := hle xs
      simp; omega
    · have := countP_lt h hf hg hm
      cases hgx : g x with
      | false => simp; omega
      | true => rw [h x hgx]; simp; omega

theorem next_bar (q : Nat → Bool) (p n : Nat) (h : p ≤ n) : ∃ z, p ≤ z ∧ z ≤ n ∧ (∀ j, p ≤ j → j < z → q j = true) ∧ (z < n → q z = false) := by
  obtain ⟨d, rfl⟩ := Nat.le.dest h
  clear h
  induction d generalizing p with
  | zero => exact ⟨p, by omega, by omega, fun j h1 h2 => by omega, fun h => by omega⟩
  | succ d ih =>
    cases hq : q p with
    | false => exact ⟨p, by omega, by omega, fun j h1 h2 => by omega, fun _ => hq⟩
    | true =>
      obtain ⟨z, h1, h2, h3, h4⟩ := ih (p + 1)
      refine ⟨z, by omega, by omega, fun j j1 j2 => ?_, fun h => h4 (by omega)⟩
      by_cases e : j = p
      · rw [e]; exact hq
      · exact h3 j (by omega) j2
theorem last_bar (q : Nat → Bool) (z : Nat) (hz : q z = false) : ∀ (d : Nat), ∃ b, z ≤ b ∧ b ≤ z + d ∧ q b = false ∧ ∀ m, b < m → m ≤ z + d → q m = true
  | 0 => ⟨z, by omega, by omega, hz, fun m h1 h2 => by omega⟩
  | d + 1 => by
    cases hq : q (z + (d + 1)) with
    | false => exact ⟨z + (d + 1), by omega, by omega, hq, fun m h1 h2 => by omega⟩
    | true =>
      obtain ⟨b, h1, h2, h3, h4⟩ := last_bar q z hz d
      refine ⟨b, h1, by omega, h3, fun m m1 m2 => ?_⟩
      by_cases e : m = z + (d + 1)
      · rw [e]; exact hq
      · exact h4 m m1 (by omega)

theorem edge_ready {listed : Array Bool} {o : Oper} (h : ∀ e ∈ o.after, Region.binds .any e = true → listed.getD e.on false = true) (m : Nat) (hm : hasEdge o m = true) : listed.getD m false = true := by
  unfold hasEdge at hm
  obtain ⟨e, he, hb⟩ := List.any_eq_true.1 hm
  simp only [Bool.and_eq_true, beq_iff_eq] at hb
  rw [← hb.2]
  exact h e (by simpa using he) hb.1

/-- What is asked of the half bars. -/
structure Halfs (ops : Array Oper) (q hf : Nat → Bool) (L : Nat → Locs) (H : Nat → Heap) (D : Nat → Option (Locs × Heap)) (h : Nat) : Prop where
  qy : ∀ y, h ≤ y → hf y = true → q y = true
  anc : ∀ y, y < ops.size → hf y = true → ∀ m, h ≤ m → m < y → Anc ops m y
  still : ∀ y k, hf y = true → y < k → k < ops.size → (∀ m, y ≤ m → m ≤ k → q m = true) → (hf k = false → L (k + 1) = L k ∧ (H (k + 1) = H k ∨ (∀ m, h ≤ m → hf m = true → m = y) ∧ D (y + 1) = D y)) ∧ (hf k = true → ∃ o, ops[k]? = some o ∧ o.guard.isNone = true)
theorem Halfs.no {h : Nat} (hh : Halfs ops q hf L H D h) {i : Nat} (hi : h ≤ i) (hq : q i = false) : hf i = false := by
  cases e : hf i with
  | false => rfl
  | true => rw [hh.qy i hi e] at hq; cases hq
theorem Halfs.seg {h p z : Nat} (hh : Halfs ops q hf L H D h) (hhp : h ≤ p) (h1 : p ≤ z) (h2 : z ≤ ops.size) (hD : D p = none) (h3 : ∀ j, p ≤ j → j < z → q j = true) : Seg ops q hf L H D p z :=
  ⟨h1, h2, hD, h3, fun y y1 y2 y3 => ⟨fun m m1 m2 => hh.anc y (by omega) y3 m (by omega) m2, fun k k1 k2 => by
    obtain ⟨g1, g2⟩ := hh.still y k y3 k1 (by omega) fun m m1 m2 => h3 m (by omega) (by omega)
    exact ⟨fun hk => ⟨(g1 hk).1, (g1 hk).2.imp id fun g => ⟨fun m m1 _ m3 => g.1 m (by omega) m3, g.2⟩⟩, g2⟩⟩⟩

/-- .. and what is looked up of them in the text. -/
structure HalfSt (T : Tab) (mk : Oper → Bool) (ops : Array Oper) (q hf : Nat → Bool) (h : Nat) : Prop where
  qy : ∀ y, h ≤ y → hf y = true → q y = true
  anc : ∀ y, y < ops.size → hf y = true → ∀ m, h ≤ m → m < y → Anc ops m y
  still : ∀ y k o, hf y = true → y < k → ops[k]? = some o → (∀ m, y ≤ m → m ≤ k → q m = true) →
    (hf k = false → Go.Abs.still T o.op = true ∨ mk o = true ∧ (∀ m, h ≤ m → hf m = true → m = y) ∧ ∃ oy, ops[y]? = some oy ∧ isCallF oy.op = true) ∧ (hf k = true → o.guard.isNone = true)
theorem call_no_store {op : Op} (h : isCallF op = true) : isStore op = false := by
  cases op <;> first | rfl | (cases h)
theorem HalfSt.run {h : Nat} (hh : HalfSt T mk ops q hf h) (run : RunOf P T mk ops q hf E L H D V) : Halfs ops q hf L H D h where
  qy := hh.qy
  anc := hh.anc
  still := fun y k y1 y2 y3 y4 => by
    have ho : ops[k]? = some ops[k] := Array.getElem?_eq_getElem y3
    obtain ⟨g1, g2⟩ := hh.still y k _ y1 y2 ho y4
    refine ⟨fun hk => ?_, fun hk => ⟨_, ho, g2 hk⟩⟩
    have g2 := g1 hk
    obtain ⟨l1, σ1, st, nx⟩ := run.step k _ ho
    rw [y4 k (by omega) (Nat.le_refl _), hk, atL_true, atH_true] at st nx
    rcases nx with ⟨_, n1, n2, _⟩ | ⟨_, hn, _⟩
    · rw [n1, n2]
      rcases st with ⟨_, _, _, _, _, _, h6, h7⟩ | ⟨_, _, h2, h3⟩
      · rcases g2 with g2 | ⟨g2, g3, oy, g4, g5⟩
        · exact ⟨(h6 g2).1, .inl (h6 g2).2⟩
        · refine ⟨h7 g2, .inr ⟨g3, ?_⟩⟩
          obtain ⟨_, _, _, ny⟩ := run.step y oy g4
          rw [y4 y (Nat.le_refl _) (by omega)] at ny
          rcases ny with ⟨_, _, _, n⟩ | ⟨_, _, _, _, _, n⟩
          · rw [n]; rfl
          · rw [call_no_store g5] at n; cases n
      · exact ⟨h2, .inl h3⟩
    · cases hn

/-- ALL ORDERS. -/
theorem any_from {h : Nat} (run : RunOf P T mk ops q hf E L H D V) (good : Good ops h q) (hh : Halfs ops q hf L H D h) {Q : Exit → Act → World → Prop} : ∀ (fuel : Nat) (listed : Array Bool) (p z : Nat) (ρ0 : Mp) (lm0 : Lp) (w0 : World) (ρ : Mp) (lm : Lp) (a : Act) (w : World),
    h ≤ p → listed.size = ops.size → Closed ops (fun k => listed.getD k false) → Seg ops q hf L H D p z → (z < ops.size → q z = false) → (∀ k, k < p → listed.getD k false = true) → (∀ k, z ≤ k → listed.getD k false = false) →
    Base T L H p ρ0 lm0 → Inv T ds ops hf E L H D V p z ρ0 lm0 w0 (fun k => listed.getD k false) ρ lm a w →
    (∀ ρ' lm' a' w', SRel T ds ρ' lm' (E ops.size) (atL false (D ops.size) (L ops.size)) (atH false (D ops.size) (H ops.size)) a' w' → Step ρ0 lm0 (L p) (H p) w0 ρ' lm' (atL false (D ops.size) (L ops.size)) (atH false (D ops.size) (H ops.size)) w' → Q .normal a' w') →
    (List.range ops.size).countP (fun k => !listed.getD k false) ≤ fuel → wpAny P .any ops Q fuel listed a w := by
  intro fuel
  have none_ready : ∀ (listed : Array Bool), listed.size = ops.size → (∀ k, k < h → listed.getD k false = true) → Region.ready .any ops listed = [] → ∀ k, k < ops.size → listed.getD k false = true := fun listed hsz hlo hr k => by
    induction k using Nat.strongRecOn with
    | _ k ih =>
      intro hk
      cases hl : listed.getD k false with
      | true => rfl
      | false =>
        have hhk : h ≤ k := by
          rcases Nat.lt_or_ge k h with h' | h'
          · rw [hlo k h'] at hl; cases hl
          · exact h'
        have : k ∈ Region.ready .any ops listed := mem_ready.2 ⟨by
          rw [Array.getD_eq_getD_getElem?, Array.getElem?_eq_getElem (by omega)] at hl ⊢
          exact hl, _, Array.getElem?_eq_getElem hk, fun e he hb => ih e.on (good.acyc k _ hhk (Array.getElem?_eq_getElem hk) e he hb) (by
            have := good.acyc k _ hhk (Array.getElem?_eq_getElem hk) e he hb
            omega)⟩
        rw [hr] at this
        cases this
  have finish : ∀ (listed : Array Bool) (p z : Nat) (ρ0 : Mp) (lm0 : Lp) (w0 : World) (ρ : Mp) (lm : Lp) (a : Act) (w : World), listed.size = ops.size → (∀ k, k < h → listed.getD k false = true) → Seg ops q hf L H D p z → (∀ k, z ≤ k → listed.getD k false = false) →
      Base T L H p ρ0 lm0 → Inv T ds ops hf E L H D V p z ρ0 lm0 w0 (fun k => listed.getD k false) ρ lm a w →
      (∀ ρ' lm' a' w', SRel T ds ρ' lm' (E ops.size) (atL false (D ops.size) (L ops.size)) (atH false (D ops.size) (H ops.size)) a' w' → Step ρ0 lm0 (L p) (H p) w0 ρ' lm' (atL false (D ops.size) (L ops.size)) (atH false (D ops.size) (H ops.size)) w' → Q .normal a' w') →
      Region.ready .any ops listed = [] → Q .normal a w := fun listed p z ρ0 lm0 w0 ρ lm a w hsz hlo' s hz base inv hQ hr => by
    have hall := none_ready listed hsz hlo' hr
    have : z = ops.size := by
      rcases Nat.lt_or_ge z ops.size with h | h
      · have := hall z h
        rw [hz z (Nat.le_refl _)] at this
        cases this
      · have := s.len; omega
    subst this
    obtain ⟨h1, h2⟩ := inv_done run s base inv fun k k1 k2 => hall k k2
    exact hQ _ _ _ _ h1 h2
  induction fuel with
  | zero =>
    intro listed p z ρ0 lm0 w0 ρ lm a w hhp hsz cl s hbar hlo hhi base inv hQ hfu
    have hr : Region.ready .any ops listed = [] := by
      cases h : Region.ready .any ops listed with
      | nil => rfl
      | cons x xs =>
        have hx : x ∈ Region.ready .any ops listed := by rw [h]; simp
        obtain ⟨h1, o, ho, _⟩ := mem_ready.1 hx
        have hlt := (Array.getElem?_eq_some_iff.1 ho).1
        have : (fun k => !listed.getD k false) x = true := by
          simp only [Bool.not_eq_true']
          rw [Array.getD_eq_getD_getElem?, Array.getElem?_eq_getElem (by omega)] at h1 ⊢
          exact h1
        have := (List.countP_pos_iff (p := fun k => !listed.getD k false)).2 ⟨x, List.mem_range.2 hlt, this⟩
        omega
    exact ⟨hr, finish listed p z ρ0 lm0 w0 ρ lm a w hsz (fun k hk => hlo k (by omega)) s hhi base inv hQ hr⟩
  | succ fuel ih =>
    intro listed p z ρ0 lm0 w0 ρ lm a w hhp hsz cl s hbar hlo hhi base inv hQ hfu
    refine ⟨finish listed p z ρ0 lm0 w0 ρ lm a w hsz (fun k hk => hlo k (by omega)) s hhi base inv hQ, fun i hi => ?_⟩
    obtain ⟨h1, o, ho, hall⟩ := mem_ready.1 hi
    have hlt := (Array.getElem?_eq_some_iff.1 ho).1
    have hun : listed.getD i false = false := by
      rw [Array.getD_eq_getD_getElem?, Array.getElem?_eq_getElem (by omega)] at h1 ⊢
      exact h1
    have hedge : ∀ m, hasEdge o m = true → listed.getD m false = true := edge_ready hall
    have hset : ∀ k, (listed.setIfInBounds i true).getD k false = (k == i || listed.getD k false) := fun k => by
      by_cases e : k = i
      · subst e; simp [hsz, hlt]
      · rw [getD_set_ne false (Ne.symm e)]; simp [e]
    have hsetf : (fun k => (listed.setIfInBounds i true).getD k false) = fun k => (k == i || listed.getD k false) := funext hset
    have hsz' : (listed.setIfInBounds i true).size = ops.size := by simp [hsz]
    have cl' : Closed ops (fun k => (listed.setIfInBounds i true).getD k false) := by
      rw [hsetf]
      intro k ok m hk hok hm
      simp only [Bool.or_eq_true, beq_iff_eq] at hk ⊢
      rcases hk with rfl | hk
      · rw [ho] at hok
        injection hok with hok
        subst hok
        exact .inr (hedge m hm)
      · exact .inr (cl k ok m hk hok hm)
    have hfu' : (List.range ops.size).countP (fun k => !(listed.setIfInBounds i true).getD k false) ≤ fuel := by
      have := countP_lt (f := fun k => !listed.getD k false) (g := fun k => !(listed.setIfInBounds i true).getD k false) (i := i) (fun x hx => by
        simp only [Bool.not_eq_true'] at hx ⊢
        rw [hset] at hx
        simp only [Bool.or_eq_false_iff] at hx
        exact hx.2) (by simp only [hun]; rfl) (by simp [hset]) (List.mem_range.2 hlt)
      omega
    have hpi : p ≤ i := by
      rcases Nat.lt_or_ge i p with h | h
      · rw [hlo i h] at hun; cases hun
      · exact h
    rcases Nat.lt_or_ge i z with hiz | hiz
    · refine inv_step hhp run good s base inv cl ho hpi hiz hun hedge fun ρ' lm' a' w' hinv => ?_
      refine ih _ p z ρ0 lm0 w0 ρ' lm' a' w' hhp hsz' cl' s hbar (fun k hk => by rw [hset, hlo k hk, Bool.or_true]) (fun k hk => by rw [hset, hhi k hk]; simp; omega) base ?_ hQ hfu'
      rw [hsetf]
      exact hinv
    · have hqz : q z = false := hbar (by omega)
      have hizz : i = z := by
        rcases Nat.lt_or_ge z i with h | h
        · obtain ⟨d, hd⟩ := Nat.le.dest (show z ≤ i - 1 by omega)
          obtain ⟨b, b1, b2, b3, b4⟩ := last_bar q z hqz d
          have := (good.bar b i o ho (by have := s.le; omega) (by omega) b3 fun m m1 m2 => b4 m m1 (by omega)).inS (S := fun k => listed.getD k false) ho cl hedge
          rw [hhi b b1] at this
          cases this
        · omega
      subst hizz
      have hallS : ∀ k, p ≤ k → k < i → listed.getD k false = true := fun k k1 k2 => (good.barAll i k o ho (by omega) hqz k2).inS (S := fun k => listed.getD k false) ho cl hedge
      obtain ⟨hs, hst⟩ := inv_done run s base inv hallS
      -- the next stretch
      obtain ⟨z', z1, z2, z3, z4⟩ := next_bar q (i + 1) ops.size hlt
      obtain ⟨l1, σ1, st, nx⟩ := run.step i o ho
      rw [hqz, hh.no (by omega) hqz] at st nx
      rcases nx with ⟨_, n1, n2, n3⟩ | ⟨hn, _⟩
      case inr => cases hn
      have s' : Seg ops q hf L H D (i + 1) z' := hh.seg (by omega) z1 z2 n3 z3
      have go : ∀ ρ' lm' a' w', SRel T ds ρ' lm' (E (i + 1)) (L (i + 1)) (H (i + 1)) a' w' → Step ρ0 lm0 (L p) (H p) w0 ρ' lm' (L (i + 1)) (H (i + 1)) w' → wpAny P .any ops Q fuel (listed.setIfInBounds i true) a' w' := fun ρ' lm' a' w' hs' hst' => by
        obtain ⟨base', inv'⟩ := inv_start (S := fun k => (listed.setIfInBounds i true).getD k false) run s' hs' (fun k hk => by
          rw [hset, hhi k (by omega)]; simp; omega)
        refine ih _ (i + 1) z' ρ' lm' w' ρ' lm' a' w' (by omega) hsz' cl' s' z4 (fun k hk => ?_) (fun k hk => by rw [hset, hhi k (by omega)]; simp; omega) base' inv' (fun ρ'' lm'' a'' w'' t1 t2 => hQ ρ'' lm'' a'' w'' t1 (hst'.trans t2)) hfu'
        rw [hset]
        by_cases e : k = i
        · simp [e]
        · rcases Nat.lt_or_ge k p with h | h
          · rw [hlo k h]; simp
          · rw [hallS k h (by omega)]; simp
      have he := run.env i o ho
      unfold wpOp
      simp only [ho]
      rcases st with ⟨hw, h1⟩ | ⟨hw, hv, hL1, hH1⟩
      · rw [if_pos (wanted_true hw fun g want d hg hd he => by
          obtain ⟨u, e1, r1⟩ := hs.act.get (d := d) (by rw [he]; simp)
          rw [he] at r1
          simp only [VRel] at r1
          rw [e1, r1])]
        refine .inl (h1 _ _ a w hs.heap hs.loc hs.glob (fun x _ => ev_rel hs.act hs.glob x) _ _ fun cv w' ρ' lm' q1 q2 q3 q4 q5 => ?_)
        rw [← n1, ← n2] at q4
        rw [← n2] at q1
        rw [← n1, ← n2] at q2
        refine go ρ' lm' _ w' ⟨?_, q1, q2, fun g hg => let ⟨t, ht⟩ := hs.glob g hg; ⟨t, q4.ext _ _ ht⟩⟩ (hst.trans q4)
        rw [he]
        exact hs.act.put q4.ext q5.1 _ q3
      · rw [if_neg (by
          rw [wanted_false hw fun g want d hg hd x hx he => ?_]
          · simp
          · obtain ⟨u, e1, r1⟩ := hs.act.get (d := d) (by rw [he]; rcases hx with rfl | ⟨b, rfl⟩ <;> simp)
            refine ⟨u, e1, ?_⟩
            rw [he] at r1
            rcases hx with rfl | ⟨b, rfl⟩ <;> simpa [VRel] using r1)]
        refine go (cutR ρ (atH false (D i) (H i))) (cutL lm (atL false (D i) (L i))) _ w ⟨?_, ?_, ?_, hs.glob⟩ ?_
        · rw [he, hv]
          exact hs.act.put (fun _ _ h => h) (fun _ _ h => h) _ (by simp [VRel])
        · rw [n2, hH1]; exact hs.heap
        · rw [n1, n2, hH1, hL1]; exact hs.loc
        · rw [n1, n2, hH1, hL1]; exact hst

/-- The values that are kept at the beginning. -/
theorem lead_take {listed : Array Bool} {i : Nat} {o : Oper} {v : Value} {Q : Exit → Act → World → Prop} {fuel : Nat} (hs : Region.noSelect ops = true) (hi : ops[i]? = some o) (hop : ∀ w, (execOp a.eval o).run P w = .ok (.value v) w) (hg : o.guard = none)
    (hsz : listed.size = ops.size) (hun : listed.getD i false = false) (hpre : ∀ e ∈ o.after, Region.binds .any e = true → listed.getD e.on false = true)
    (hfree : ∀ (j : Nat) (oj : Oper), ops[j]? = some oj → listed.getD j false = false → j ≠ i → hasEdge oj i = true ∨ o.apart ops oj = true)
    (hQ : ∀ c a w, ¬ Q (.panic c) a w) (hk : wpAny P .any ops Q fuel (listed.setIfInBounds i true) (a.put o.dst v) w) : wpAny P .any ops Q (fuel + 1) listed a w := by
  have hlt := (Array.getElem?_eq_some_iff.1 hi).1
  have eqD : ∀ j, j < ops.size → listed.getD j true = listed.getD j false := fun j hj => by
    rw [Array.getD_eq_getD_getElem?, Array.getD_eq_getD_getElem?, Array.getElem?_eq_getElem (by omega)]; rfl
  refine wpAny_first hi (Region.noSelect_spec hs) (fun c a w h => absurd h (hQ c _ w)) fuel listed a w (fun j oj hj hne hl hno => ?_) (mem_ready.2 ⟨by rw [eqD i hlt]; exact hun, o, hi, hpre⟩) (.inl ⟨by simp [Region.wanted, hg], hop⟩) hk
  rw [eqD j (Array.getElem?_eq_some_iff.1 hj).1] at hl
  rcases hfree j oj hj hl hne with h | h
  · unfold hasEdge at h
    obtain ⟨e, he, hb⟩ := List.any_eq_true.1 h
    simp only [Bool.and_eq_true, beq_iff_eq] at hb
    exact absurd hb.2 (hno e (by simpa using he) hb.1)
  · exact h

structure Lead (ops : Array Oper) (q hf : Nat → Bool) (h : Nat) : Prop where
  le : h ≤ ops.size
  sel : Region.noSelect ops = true
  each : ∀ (i : Nat) (o : Oper), i < h → ops[i]? = some o → q i = false ∧ o.guard = none ∧ ((∃ x, o.op = .move x) ∨ hf i = true) ∧ (∀ e ∈ o.after, Region.binds .any e = true → e.on < i) ∧
    ∀ (j : Nat) (oj : Oper), i < j → ops[j]? = some oj → hasEdge oj i = true ∨ o.apart ops oj = true

theorem lead_dn (run : RunOf P T mk ops q hf E L H D V) {h : Nat} (ld : Lead ops q hf h) (hD : D 0 = none) : ∀ i, i ≤ h → D i = none
  | 0, _ => hD
  | i + 1, hi => by
    obtain ⟨o, ho⟩ : ∃ o, ops[i]? = some o := ⟨_, Array.getElem?_eq_getElem (Nat.lt_of_lt_of_le (show i < h by omega) ld.le)⟩
    obtain ⟨l1, σ1, _, nx⟩ := run.step i o ho
    rw [(ld.each i o (by omega) ho).1] at nx
    rcases nx with ⟨_, _, _, n3⟩ | ⟨hn, _⟩
    · rw [n3]; rfl
    · cases hn
theorem lead_sound (run : RunOf P T mk ops q hf E L H D V) {h : Nat} (ld : Lead ops q hf h) (hD : D 0 = none) {Q : Exit → Act → World → Prop} (hQ : ∀ c a w, ¬ Q (.panic c) a w)
    (fin : ∀ (listed : Array Bool) (ρ' : Mp) (lm' : Lp) (a' : Act) (w' : World), listed.size = ops.size → (∀ k, listed.getD k false = decide (k < h)) → SRel T ds ρ' lm' (E h) (L h) (H h) a' w' → Step ρ0 lm0 (L 0) (H 0) w0 ρ' lm' (L h) (H h) w' → wpAny P .any ops Q (ops.size - h) listed a' w') :
    ∀ (d i : Nat) (listed : Array Bool) (ρ : Mp) (lm : Lp) (a : Act) (w : World), i + d = h → listed.size = ops.size → (∀ k, listed.getD k false = decide (k < i)) → SRel T ds ρ lm (E i) (L i) (H i) a w → Step ρ0 lm0 (L 0) (H 0) w0 ρ lm (L i) (H i) w →
      wpAny P .any ops Q (ops.size - i) listed a w
  | 0, i, listed, ρ, lm, a, w, hd, hsz, hl, hs, hst => by
    obtain rfl : i = h := by omega
    exact fin listed ρ lm a w hsz hl hs hst
  | d + 1, i, listed, ρ, lm, a, w, hd, hsz, hl, hs, hst => by
    have hih : i < h := by omega
    have hlt : i < ops.size := Nat.lt_of_lt_of_le hih ld.le
    obtain ⟨o, ho⟩ : ∃ o, ops[i]? = some o := ⟨_, Array.getElem?_eq_getElem hlt⟩
    obtain ⟨hq, hg, hop, hac, hfr⟩ := ld.each i o hih ho
    have e1 : ops.size - i = (ops.size - (i + 1)) + 1 := by omega
    rw [e1]
    obtain ⟨l1, σ1, st, nx⟩ := run.step i o ho
    rw [hq, lead_dn run ld hD i (by omega)] at st nx
    simp only [atL, atH] at st nx
    rcases nx with ⟨_, n1, n2, _⟩ | ⟨hn, _⟩
    case inr => cases hn
    rw [← n1, ← n2] at st
    have he := run.env i o ho
    have hst1 : ∃ v ρ' lm', (∀ w, (execOp a.eval o).run P w = .ok (.value v) w) ∧ SRel T ds ρ' lm' (E (i + 1)) (L (i + 1)) (H (i + 1)) (a.put o.dst v) w ∧ Step ρ0 lm0 (L 0) (H 0) w0 ρ' lm' (L (i + 1)) (H (i + 1)) w := by
      cases hhf : hf i with
      | true =>
        rw [hhf] at st
        rcases st with ⟨_, h1, h2, h3⟩ | ⟨hw, _⟩
        · obtain ⟨cv, c1, c2⟩ := h1 ρ lm a (fun x _ => ev_rel hs.act hs.glob x)
          refine ⟨cv, ρ, lm, c1, ⟨?_, by rw [h3]; exact hs.heap, by rw [h2, h3]; exact hs.loc, hs.glob⟩, by rw [h2, h3]; exact hst⟩
          rw [he]; exact hs.act.put (fun _ _ h => h) (fun _ _ h => h) _ c2
        · obtain ⟨g, want, hg', _⟩ := hw
          rw [hg] at hg'
          cases hg'
      | false =>
        rw [hhf] at st
        obtain ⟨x, hop⟩ := hop.resolve_right (by rw [hhf]; simp)
        have hrun : ∀ w, (execOp a.eval o).run P w = .ok (.value (a.eval x)) w := fun w => by simp [execOp, hop]
        refine ⟨a.eval x, ?_⟩
        rcases st with ⟨_, h1⟩ | ⟨hw, _⟩
        · have := h1 ρ lm a w hs.heap hs.loc hs.glob (fun x _ => ev_rel hs.act hs.glob x) (fun a' w' => ∃ ρ' lm', SRel T ds ρ' lm' (E (i + 1)) (L (i + 1)) (H (i + 1)) a' w' ∧ Step ρ0 lm0 (L 0) (H 0) w0 ρ' lm' (L (i + 1)) (H (i + 1)) w') (fun _ _ _ => False)
            (fun cv w' ρ' lm' q1 q2 q3 q4 q5 => ⟨ρ', lm', ⟨by rw [he]; exact hs.act.put q4.ext q5.1 _ q3, q1, q2, fun g hg => let ⟨t, ht⟩ := hs.glob g hg; ⟨t, q4.ext _ _ ht⟩⟩, hst.trans q4⟩)
          unfold Oper.wp at this
          rw [hrun] at this
          obtain ⟨ρ', lm', s1, s2⟩ := this
          exact ⟨ρ', lm', hrun, s1, s2⟩
        · obtain ⟨g, want, hg', _⟩ := hw
          rw [hg] at hg'
          cases hg'
    obtain ⟨v, ρ', lm', hyv, s1, s2⟩ := hst1
    have hset : ∀ k, (listed.setIfInBounds i true).getD k false = decide (k < i + 1) := fun k => by
      by_cases e : k = i
      · subst e; simp [hsz, hlt]
      · rw [getD_set_ne false (Ne.symm e), hl]
        by_cases h1 : k < i
        · simp [h1]; omega
        · simp [h1]; omega
    refine lead_take ld.sel ho hyv hg hsz (by rw [hl]; simp) (fun e he hb => by rw [hl]; simpa using hac e he hb) (fun j oj hj hl' hne => ?_) hQ
      (lead_sound run ld hD hQ fin d (i + 1) _ ρ' lm' _ w (by omega) (by simp [hsz]) hset s1 s2)
    rw [hl] at hl'
    simp only [decide_eq_false_iff_not] at hl'
    exact hfr j oj (by omega) hj

theorem draw_any {Q : Exit → Act → World → Prop} {qs hz : List Bool} {h : Nat} (hst' : HalfSt T mk ops (fun j => qs.getD j false) (fun j => hz.getD j false) h) (ld : Lead ops (fun j => qs.getD j false) (fun j => hz.getD j false) h) (good : Good ops h (fun j => qs.getD j false)) {e : Env} {l : Locs} {σ : Heap} {e' : Env} {l' : Locs} {σ' : Heap}
    (ht : Trace P T mk ops ops.toList qs hz e l σ none e' l' σ') (hs : SRel T ds ρ lm e l σ a w) (hQp : ∀ c a w, ¬ Q (.panic c) a w)
    (hq : ∀ ρ' lm' a' w', SRel T ds ρ' lm' e' l' σ' a' w' → Step ρ lm l σ w ρ' lm' l' σ' w' → Q .normal a' w') : wpAny P .any ops Q ops.size (Array.replicate ops.size false) a { w with drawn := w.drawn + 1 } := by
  obtain ⟨E, L, H, D, V, rfl, rfl, rfl, hD0, rfl, rfl, rfl, hrun⟩ := ht.fns
  have run : RunOf P T mk ops (fun j => qs.getD j false) (fun j => hz.getD j false) E L H D V := ⟨fun j o hj => (hrun j o (by simpa using hj)).1, fun j o hj => (hrun j o (by simpa using hj)).2⟩
  have hh := hst'.run run
  have hs' : SRel T ds ρ lm (E 0) (L 0) (H 0) a { w with drawn := w.drawn + 1 } := ⟨hs.act, hs.heap.grow (fun _ _ => rfl), hs.loc.grow (Nat.le_refl _) (fun _ _ => rfl), hs.glob⟩
  have hst : Step ρ lm (L 0) (H 0) w ρ lm (L 0) (H 0) { w with drawn := w.drawn + 1 } :=
    ⟨rfl, rfl, rfl, Nat.le_refl _, Nat.le_refl _, fun _ _ h => h, fun _ h h' => absurd h h', fun _ _ _ _ => rfl, fun b pl x h hx hr => .inr ⟨b, pl, x, h, hx, hr, rfl⟩, fun _ _ h _ => h, fun _ _ h _ => h, fun t k h h2 => .inr ⟨t, h, h2⟩⟩
  have hno : ∀ k, (Array.replicate ops.size false).getD k false = decide (k < 0) := fun k => by
    rw [Array.getD_eq_getD_getElem?, Array.getElem?_replicate]; split <;> simp
  have fin : ∀ (listed : Array Bool) (ρ' : Mp) (lm' : Lp) (a' : Act) (w' : World), listed.size = ops.size → (∀ k, listed.getD k false = decide (k < h)) → SRel T ds ρ' lm' (E h) (L h) (H h) a' w' → Step ρ lm (L 0) (H 0) w ρ' lm' (L h) (H h) w' → wpAny P .any ops Q (ops.size - h) listed a' w' := fun listed ρ1 lm1 a1 w1 hsz hl s1 s2 => by
    obtain ⟨z, z1, z2, z3, z4⟩ := next_bar (fun j => qs.getD j false) h ops.size ld.le
    have s : Seg ops (fun j => qs.getD j false) (fun j => hz.getD j false) L H D h z := hh.seg (Nat.le_refl _) z1 z2 (lead_dn run ld hD0 h (Nat.le_refl _)) z3
    obtain ⟨base, inv⟩ := inv_start (S := fun k => listed.getD k false) run s s1 (fun k hk => by rw [hl]; simpa using hk)
    refine any_from run good hh (ops.size - h) listed h z ρ1 lm1 w1 ρ1 lm1 a1 w1 (Nat.le_refl _) hsz (fun k o m hk hok hmk => ?_) s z4 (fun k hk => by rw [hl]; simpa using hk) (fun k hk => by rw [hl]; simp; omega) base inv (fun ρ' lm' a' w' h1 h2 => hq ρ' lm' a' w' (by simpa using h1) (by simpa using s2.trans h2)) ?_
    · simp only [hl, decide_eq_true_eq] at hk ⊢
      unfold hasEdge at hmk
      obtain ⟨e, he, hb⟩ := List.any_eq_true.1 hmk
      simp only [Bool.and_eq_true, beq_iff_eq] at hb
      have := (ld.each k o hk hok).2.2.2.1 e (by simpa using he) hb.1
      omega
    · have e0 : (fun k => !listed.getD k false) = fun k => !decide (k < h) := by funext k; rw [hl]
      rw [e0]
      have : ∀ n, (List.range n).countP (fun k => !decide (k < h)) ≤ n - h := fun n => by
        induction n with
        | zero => simp
        | succ n ih =>
          rw [List.range_succ, List.countP_append]
          by_cases hn : n < h
          · have e1 : (List.range n).countP (fun k => !decide (k < h)) = 0 := by
              rw [List.countP_eq_zero]
              intro k hk
              have := List.mem_range.1 hk
              simp; omega
            rw [e1]
            simp [hn]
          · have e2 : List.countP (fun k => !decide (k < h)) [n] = 1 := by simp [List.countP_cons]; omega
            rw [e2]
            omega
      exact this _
  exact lead_sound (ρ0 := ρ) (lm0 := lm) (w0 := w) run ld hD0 hQp fin h 0 (Array.replicate ops.size false) ρ lm a _ (by omega) (by simp) hno hs' hst

/-! ### Another order -/
theorem binds_on (e : Edge) (m : Nat) : Region.binds .any { e with on := m } = Region.binds .any e := by cases e; rfl
theorem go_get {π0 : List Nat} {os : List Oper} : ∀ (π : List Nat), (∀ i ∈ π, i < os.length) → ∀ (j : Nat), (permOps.go π0 os π)[j]? = (π[j]?).bind fun i => (os[i]?).map (permOp π0)
  | [], _, j => by simp [permOps.go]
  | i :: r, h, j => by
    obtain ⟨o, hi⟩ : ∃ o, os[i]? = some o := ⟨_, List.getElem?_eq_getElem (h i List.mem_cons_self)⟩
    simp only [permOps.go, hi]
    cases j with
    | zero => simp [hi]
    | succ j => simpa using go_get r (fun i hi => h i (List.mem_cons_of_mem _ hi)) j

/-- The places are others, and nothing else. -/
structure Perm (π : Nat → Nat) (κ : Nat → Nat) (ops ops' : Array Oper) : Prop where
  size : ops'.size = ops.size
  lt : ∀ i, i < ops.size → π i < ops.size
  kt : ∀ j, j < ops.size → κ j < ops.size
  pk : ∀ j, j < ops.size → π (κ j) = j
  kp : ∀ i, i < ops.size → κ (π i) = i
  get : ∀ i (o : Oper), ops[i]? = some o → ∃ o', ops'[π i]? = some o' ∧ o'.op = o.op ∧ o'.dst = o.dst ∧ o'.type = o.type ∧ o'.pos = o.pos ∧
    (∀ e ∈ o.after, ∃ e' ∈ o'.after, e'.on = π e.on ∧ Region.binds .any e' = Region.binds .any e) ∧ (∀ e' ∈ o'.after, ∃ e ∈ o.after, e'.on = π e.on ∧ Region.binds .any e' = Region.binds .any e) ∧
    (∀ e ∈ o.after, e.on < ops.size) ∧ (o'.guard = match o.guard with | some (g, b) => some (π g, b) | none => none) ∧ (∀ g b, o.guard = some (g, b) → g < ops.size)

theorem Perm.ready {π κ : Nat → Nat} {ops ops' : Array Oper} (h : Perm π κ ops ops') {listed listed' : Array Bool} (hl : listed.size = ops.size) (hl' : listed'.size = ops.size) (hr : ∀ i, i < ops.size → listed'.getD (π i) false = listed.getD i false) {i : Nat} (hi : i < ops.size) :
    i ∈ Region.ready .any ops listed ↔ π i ∈ Region.ready .any ops' listed' := by
  have eqD : ∀ (b : Array Bool), b.size = ops.size → ∀ j, j < ops.size → b.getD j true = b.getD j false := fun b hb j hj => by
    rw [Array.getD_eq_getD_getElem?, Array.getD_eq_getD_getElem?, Array.getElem?_eq_getElem (by omega)]; rfl
  have ho : ops[i]? = some ops[i] := Array.getElem?_eq_getElem hi
  obtain ⟨o', h1, h2, h3, h4, h5, h6, h7, h8, h9, h10⟩ := h.get i _ ho
  rw [mem_ready, mem_ready, eqD _ hl i hi, eqD _ hl' _ (h.lt i hi), hr i hi]
  constructor
  · rintro ⟨g1, o, g2, g3⟩
    rw [ho] at g2
    injection g2 with g2
    subst g2
    refine ⟨g1, o', h1, fun e' he' hb => ?_⟩
    obtain ⟨e, he, k1, k2⟩ := h7 e' he'
    rw [k1, hr _ (h8 e he)]
    exact g3 e he (by rw [← k2]; exact hb)
  · rintro ⟨g1, o, g2, g3⟩
    rw [h1] at g2
    injection g2 with g2
    subst g2
    refine ⟨g1, _, ho, fun e he hb => ?_⟩
    obtain ⟨e', he', k1, k2⟩ := h6 e he
    have := g3 e' he' (by rw [k2]; exact hb)
    rwa [k1, hr _ (h8 e he)] at this

theorem Perm.op {π κ : Nat → Nat} {ops ops' : Array Oper} (h : Perm π κ ops ops') {Q : Exit → Act → World → Prop} {i : Nat} (hi : i < ops.size) {K : Act → World → Prop} {a : Act} {w : World} (hw : wpOp P ops' Q (π i) K a w) : wpOp P ops Q i K a w := by
  have ho : ops[i]? = some ops[i] := Array.getElem?_eq_getElem hi
  obtain ⟨o', h1, h2, h3, h4, h5, h6, h7, h8, h9, h10⟩ := h.get i _ ho
  unfold wpOp at hw ⊢
  simp only [ho]
  simp only [h1] at hw
  have e1 : Region.wanted o' (yielded ops' a.tmps) = Region.wanted ops[i] (yielded ops a.tmps) := by
    unfold Region.wanted
    rw [h9]
    cases hg : (ops[i]).guard with
    | none => rfl
    | some g =>
      obtain ⟨g, b⟩ := g
      have hgl := h10 g b hg
      obtain ⟨p', p1, _, p3, _⟩ := h.get g _ (Array.getElem?_eq_getElem hgl)
      have : yielded ops' a.tmps (π g) = yielded ops a.tmps g := by
        unfold yielded
        rw [p1, Array.getElem?_eq_getElem hgl]
        simp only [Option.bind_some, p3]
      simp only [this]
  have e2 : execOp a.eval o' = execOp a.eval ops[i] := by
    unfold execOp
    rw [h2, h4]
  have e3 : ∀ K Q, o'.wp P a w K Q = (ops[i]).wp P a w K Q := fun K Q => by
    unfold Oper.wp Oper.upon
    rw [e2, h3]
  have e4 : o'.asks P a w = (ops[i]).asks P a w := by
    unfold Oper.asks
    rw [e2]
  rw [e1, e3, e4, h3] at hw
  exact hw

theorem wpAny_perm {π κ : Nat → Nat} {ops ops' : Array Oper} (h : Perm π κ ops ops') {Q : Exit → Act → World → Prop} : ∀ (fuel : Nat) (listed listed' : Array Bool) (a : Act) (w : World), listed.size = ops.size → listed'.size = ops.size →
    (∀ i, i < ops.size → listed'.getD (π i) false = listed.getD i false) → wpAny P .any ops' Q fuel listed' a w → wpAny P .any ops Q fuel listed a w := by
  have empty : ∀ (listed listed' : Array Bool), listed.size = ops.size → listed'.size = ops.size → (∀ i, i < ops.size → listed'.getD (π i) false = listed.getD i false) → (Region.ready .any ops listed = [] ↔ Region.ready .any ops' listed' = []) := fun listed listed' hl hl' hr => by
    have lt : ∀ {i}, i ∈ Region.ready .any ops listed → i < ops.size := fun hm => by
      obtain ⟨_, o, ho, _⟩ := mem_ready.1 hm
      exact (Array.getElem?_eq_some_iff.1 ho).1
    have lt' : ∀ {i}, i ∈ Region.ready .any ops' listed' → i < ops.size := fun hm => by
      obtain ⟨_, o, ho, _⟩ := mem_ready.1 hm
      rw [← h.size]
      exact (Array.getElem?_eq_some_iff.1 ho).1
    constructor
    · intro he
      refine List.eq_nil_iff_forall_not_mem.2 fun j hj => ?_
      have hjl := lt' hj
      have := (h.ready hl hl' hr (h.kt j hjl)).2 (by rw [h.pk j hjl]; exact hj)
      rw [he] at this
      cases this
    · intro he
      refine List.eq_nil_iff_forall_not_mem.2 fun j hj => ?_
      have := (h.ready hl hl' hr (lt hj)).1 hj
      rw [he] at this
      cases this
  intro fuel
  induction fuel with
  | zero =>
    intro listed listed' a w hl hl' hr hw
    exact ⟨(empty _ _ hl hl' hr).2 hw.1, hw.2⟩
  | succ fuel ih =>
    intro listed listed' a w hl hl' hr hw
    refine ⟨fun he => hw.1 ((empty _ _ hl hl' hr).1 he), fun i hi => ?_⟩
    have hlt : i < ops.size := by
      obtain ⟨_, o, ho, _⟩ := mem_ready.1 hi
      exact (Array.getElem?_eq_some_iff.1 ho).1
    refine h.op hlt (wpOp_mono (fun a' w' hk => ih _ _ a' w' (by simp [hl]) (by simp [hl']) (fun j hj => ?_) hk) (hw.2 (π i) ((h.ready hl hl' hr hlt).1 hi)))
    by_cases e : j = i
    · subst e
      simp [hl, hl', hlt, h.lt j hlt]
    · have : π i ≠ π j := fun e' => e (by have := congrArg κ e'; rw [h.kp i hlt, h.kp j hj] at this; exact this.symm)
      rw [getD_set_ne false this, getD_set_ne false (Ne.symm e), hr j hj]

theorem perm_of {π : List Nat} {ops : Array Oper} (h : permOk π ops = true) : permOps π ops = ops ∨ ∃ p κ, Perm p κ ops (permOps π ops) := by
  cases π with
  | nil => exact .inl rfl
  | cons x xs =>
    right
    simp only [permOk, permOps, Bool.and_eq_true, decide_eq_true_eq] at h ⊢
    generalize x :: xs = π at h ⊢
    obtain ⟨⟨h1, h2⟩, h3⟩ := h
    have hh : ∀ i, i < ops.size → π.idxOf i < ops.size ∧ π[π.idxOf i]? = some i ∧ ∃ j, π[i]? = some j ∧ j < ops.size ∧ π.idxOf j = i := fun i hi => by
      have := List.all_eq_true.1 h2 i (List.mem_range.2 hi)
      simp only [Bool.and_eq_true, decide_eq_true_eq] at this
      obtain ⟨⟨g1, g2⟩, g3⟩ := this
      split at g3
      · rename_i j hj
        simp only [Bool.and_eq_true, decide_eq_true_eq] at g3
        exact ⟨g1, g2, j, hj, g3.1, g3.2⟩
      · cases g3
    have hmem : ∀ i ∈ π, i < ops.toList.length := fun i hi => by
      obtain ⟨j, hj⟩ := List.getElem?_of_mem hi
      have hjl := (List.getElem?_eq_some_iff.1 hj).1
      obtain ⟨_, _, k, k1, k2, _⟩ := hh j (by omega)
      rw [hj] at k1
      injection k1 with k1
      subst k1
      simpa using k2
    have hget := go_get (π0 := π) (os := ops.toList) π hmem
    have hlen : (permOps.go π ops.toList π).length = ops.size := by
      have a1 : ∀ j, j < ops.size → (permOps.go π ops.toList π)[j]? ≠ none := fun j hj => by
        obtain ⟨_, _, k, k1, k2, _⟩ := hh j hj
        rw [hget, k1]
        simp [k2]
      have a2 : (permOps.go π ops.toList π)[ops.size]? = none := by
        rw [hget, List.getElem?_eq_none (by omega)]; rfl
      have b2 := List.getElem?_eq_none_iff.1 a2
      rcases Nat.lt_or_ge (permOps.go π ops.toList π).length ops.size with hlt | hge
      · exact absurd (List.getElem?_eq_none (Nat.le_refl _)) (a1 _ hlt)
      · omega
    refine ⟨π.idxOf, fun j => π.getD j 0, by simpa using hlen, fun i hi => (hh i hi).1, fun j hj => ?_, fun j hj => ?_, fun i hi => ?_, fun i o ho => ?_⟩
    · obtain ⟨_, _, k, k1, k2, _⟩ := hh j hj
      simp [List.getD, k1, k2]
    · obtain ⟨_, _, k, k1, k2, k3⟩ := hh j hj
      simp [List.getD, k1, k3]
    · simp [List.getD, (hh i hi).2.1]
    · have hi := (Array.getElem?_eq_some_iff.1 ho).1
      have hol := List.all_eq_true.1 h3 o (List.mem_of_getElem? (by simpa using ho))
      rw [Bool.and_eq_true] at hol
      refine ⟨permOp π o, ?_, rfl, rfl, rfl, rfl, fun e he => ?_, fun e' he' => ?_, fun e he => ?_, ?_, fun g b hg => ?_⟩
      · rw [List.getElem?_toArray, hget, (hh i hi).2.1]
        simp [ho]
      · refine ⟨{ e with on := π.idxOf e.on }, ?_, rfl, binds_on e _⟩
        simp only [permOp, List.mem_toArray, List.mem_map]
        exact ⟨e, by simpa using he, rfl⟩
      · simp only [permOp, List.mem_toArray, List.mem_map] at he'
        obtain ⟨e, he, rfl⟩ := he'
        exact ⟨e, by simpa using he, rfl, binds_on e _⟩
      · simpa using List.all_eq_true.1 hol.1 e (by simpa using he)
      · simp only [permOp]
        cases o.guard with
        | none => rfl
        | some g => rfl
      · have := hol.2
        rw [hg] at this
        simpa using this

theorem region_draw (hm : P.follows .mixedOrders = true) {id : Nat} {π : List Nat} {ops : Array Oper} (hp : permOk π ops = true) {Q : Exit → Act → World → Prop} {qs hz : List Bool} {h : Nat} (hst' : HalfSt T mk (permOps π ops) (fun j => qs.getD j false) (fun j => hz.getD j false) h) (ld : Lead (permOps π ops) (fun j => qs.getD j false) (fun j => hz.getD j false) h) (good : Good (permOps π ops) h (fun j => qs.getD j false)) {e : Env} {l : Locs} {σ : Heap} {e' : Env} {l' : Locs} {σ' : Heap}
    (ht : Trace P T mk (permOps π ops) (permOps π ops).toList qs hz e l σ none e' l' σ') (hs : SRel T ds ρ lm e l σ a w) (hQp : ∀ c a w, ¬ Q (.panic c) a w)
    (hq : ∀ ρ' lm' a' w', SRel T ds ρ' lm' e' l' σ' a' w' → Step ρ lm l σ w ρ' lm' l' σ' w' → Q .normal a' w') : (Code.region id ops true).wp P Q a w := by
  refine wp_region_any hm ?_
  have key := draw_any hst' ld good ht hs hQp hq
  rcases perm_of hp with e0 | ⟨p, κ, hpm⟩
  · rw [e0] at key; exact key
  · rw [hpm.size] at key
    refine wpAny_perm hpm ops.size (Array.replicate ops.size false) (Array.replicate ops.size false) a _ (by simp) (by simp) (fun i hi => ?_) key
    simp [hi, hpm.lt i hi]
end
end Go.Abs
namespace Go.Abs
open Go
variable {ds : List Deferred}

/-! ### The static check -/
section
variable {ops : Array Oper} {q : Nat → Bool}

theorem maskOf_spec {i : Nat} {ancs : List Nat} {m : Nat} : ∀ {es : List Edge} {acc : Nat}, (maskOf i ancs es acc).testBit m = true → acc.testBit m = true ∨ ∃ e ∈ es, Region.binds .any e = true ∧ (e.on = m ∨ (ancs.getD (i - 1 - e.on) 0).testBit m = true)
  | [], acc, h => .inl h
  | e :: es, acc, h => by
    unfold maskOf at h
    split at h
    · rename_i hb
      rcases maskOf_spec h with h | ⟨e', h1, h2⟩
      · rw [Nat.testBit_or, Nat.testBit_or, Bool.or_eq_true, Bool.or_eq_true] at h
        rcases h with (h | h) | h
        · exact .inl h
        · refine .inr ⟨e, List.mem_cons_self, hb, .inl ?_⟩
          rw [Nat.one_shiftLeft, Nat.testBit_two_pow] at h
          simpa using h
        · exact .inr ⟨e, List.mem_cons_self, hb, .inr h⟩
      · exact .inr ⟨e', List.mem_cons_of_mem _ h1, h2⟩
    · rcases maskOf_spec h with h | ⟨e', h1, h2⟩
      · exact .inl h
      · exact .inr ⟨e', List.mem_cons_of_mem _ h1, h2⟩

theorem goodGo_spec {h : Nat} : ∀ (os : List Oper) (i : Nat) (bar : Option Nat) (seg : List (Nat × Oper)) (ancs : List Nat) (qs : List Bool), h ≤ i → os = ops.toList.drop i → (∀ j, qs.getD j false = q (i + j)) → goodGo ops h i bar seg ancs qs os = true →
    (∀ b, bar = some b → h ≤ b ∧ b < i ∧ q b = false ∧ ∀ m, b < m → m < i → q m = true) → (bar = none → ∀ m, h ≤ m → m < i → q m = true) →
    (∀ (k : Nat) (ok : Oper), h ≤ k → k < i → (∀ m, k ≤ m → m < i → q m = true) → ops[k]? = some ok → (k, ok) ∈ seg) →
    (∀ (k m : Nat), k < i → (ancs.getD (i - 1 - k) 0).testBit m = true → Anc ops m k) →
    ∀ (j : Nat) (o : Oper), i ≤ j → ops[j]? = some o →
      (∀ e ∈ o.after, Region.binds .any e = true → e.on < j) ∧
      (∀ b, h ≤ b → b < j → q b = false → (∀ m, b < m → m < j → q m = true) → Anc ops b j) ∧
      (q j = false → ∀ m, h ≤ m → m < j → Anc ops m j) ∧
      (∀ (k : Nat) (ok : Oper), ops[k]? = some ok → h ≤ k → k < j → (∀ m, k ≤ m → m ≤ j → q m = true) → (Anc ops k j ∨ ok.apart ops o = true) ∧ (∀ d, ok.dst = some d → o.dst ≠ some d))
  | [], i, bar, seg, ancs, qs, hhi, hos, hqs, hg, hb, hn, hs, ha, j, o, hj, ho => by
    have h1 := (Array.getElem?_eq_some_iff.1 ho).1
    have : ops.toList.length ≤ i := List.drop_eq_nil_iff.1 hos.symm
    simp at this
    omega
  | o0 :: os, i, bar, seg, ancs, qs, hhi, hos, hqs, hg, hb, hn, hs, ha, j, o, hj, ho => by
    have hi : ops[i]? = some o0 := by
      have := congrArg (fun q : List Oper => q[0]?) hos
      simp only [List.getElem?_cons_zero, List.getElem?_drop, Nat.add_zero, Array.getElem?_toList] at this
      exact this.symm
    have hos' : os = ops.toList.drop (i + 1) := by
      have := congrArg List.tail hos
      simpa [List.tail_drop] using this
    have hqi : qs.headD false = q i := by
      rw [← Nat.add_zero i, ← hqs 0]
      cases qs <;> rfl
    have hqs' : ∀ j, qs.tail.getD j false = q (i + 1 + j) := fun j => by
      rw [Nat.add_assoc, Nat.add_comm 1 j, ← hqs (j + 1)]
      cases qs <;> simp [List.getD]
    simp only [goodGo, Bool.and_eq_true] at hg
    obtain ⟨⟨hac, hbar⟩, hg⟩ := hg
    rw [hqi] at hg
    have hac' : ∀ e ∈ o0.after, Region.binds .any e = true → e.on < i := fun e he hbn => by
      have := List.all_eq_true.1 hac e (by simpa using he)
      simpa [hbn] using this
    have hmask : ∀ m, (maskOf i ancs o0.after.toList 0).testBit m = true → Anc ops m i := fun m hm => by
      rcases maskOf_spec hm with h | ⟨e, he, hbn, h⟩
      · simp at h
      · have hedge : ∀ m, e.on = m → hasEdge o0 m = true := fun m hem => List.any_eq_true.2 ⟨e, he, by simp [hbn, hem]⟩
        rcases h with h | h
        · exact .edge hi (hedge m h)
        · exact .more (ha e.on m (hac' e (by simpa using he) hbn) h) hi (hedge e.on rfl)
    have ha' : ∀ (k m : Nat), k < i + 1 → ((maskOf i ancs o0.after.toList 0 :: ancs).getD (i + 1 - 1 - k) 0).testBit m = true → Anc ops m k := fun k m hk hm => by
      by_cases e : k = i
      · subst e
        have e0 : k + 1 - 1 - k = 0 := by omega
        rw [e0] at hm
        exact hmask m (by simpa [List.getD] using hm)
      · have e0 : i + 1 - 1 - k = (i - 1 - k) + 1 := by omega
        rw [e0] at hm
        exact ha k m (by omega) (by simpa [List.getD] using hm)
    cases hq : q i with
    | true =>
      rw [hq] at hg
      simp only [Bool.and_eq_true] at hg
      obtain ⟨hseg, hg⟩ := hg
      rcases Nat.lt_or_ge i j with hij | hij
      · refine goodGo_spec os (i + 1) bar ((i, o0) :: seg) _ qs.tail (by omega) hos' hqs' hg (fun b e => ?_) (fun e m hm1 hm => ?_) (fun k ok hhk hk hall hok => ?_) ha' j o hij ho
        · obtain ⟨h0, h1, h2, h3⟩ := hb b e
          refine ⟨h0, by omega, h2, fun m m1 m2 => ?_⟩
          by_cases em : m = i
          · rw [em]; exact hq
          · exact h3 m m1 (by omega)
        · by_cases em : m = i
          · rw [em]; exact hq
          · exact hn e m hm1 (by omega)
        · by_cases ek : k = i
          · subst ek
            rw [hi] at hok
            injection hok with hok
            subst hok
            exact List.mem_cons_self
          · exact List.mem_cons_of_mem _ (hs k ok hhk (by omega) (fun m m1 m2 => hall m m1 (by omega)) hok)
      · obtain rfl : j = i := by omega
        rw [hi] at ho
        injection ho with ho
        subst ho
        refine ⟨hac', fun b hb0 hb1 hb2 hb3 => ?_, fun h' => (by rw [hq] at h'; cases h'), fun k ok hok hhk hk hall => ?_⟩
        · cases hbv : bar with
          | none => have := hn hbv b hb0 hb1; rw [hb2] at this; cases this
          | some b' =>
            rw [hbv] at hbar
            obtain ⟨_, g1, g2, g3⟩ := hb b' hbv
            rcases Nat.lt_trichotomy b b' with h1 | h1 | h1
            · have := hb3 b' h1 g1; rw [g2] at this; cases this
            · rw [h1]; exact hmask b' hbar
            · have := g3 b h1 hb1; rw [hb2] at this; cases this
        · have := List.all_eq_true.1 hseg (k, ok) (hs k ok hhk hk (fun m m1 m2 => hall m m1 (by omega)) hok)
          simp only [Bool.and_eq_true, Bool.or_eq_true] at this
          refine ⟨this.1.imp (hmask k) id, fun d hd hd' => ?_⟩
          have h2 := this.2
          rw [hd, hd'] at h2
          simp [apartDst] at h2
    | false =>
      rw [hq] at hg
      simp only [Bool.and_eq_true] at hg
      obtain ⟨hseg, hg⟩ := hg
      have hseg' : ∀ m, h ≤ m → m < i → Anc ops m i := fun m m1 m2 => by
        have := List.all_eq_true.1 hseg m (List.mem_range.2 m2)
        simp only [Bool.or_eq_true, decide_eq_true_eq] at this
        exact hmask m (this.resolve_left (by omega))
      rcases Nat.lt_or_ge i j with hij | hij
      · refine goodGo_spec os (i + 1) (some i) [] _ qs.tail (by omega) hos' hqs' hg (fun b e => ?_) (fun e m hm => by cases e) (fun k ok hhk hk hall hok => ?_) ha' j o hij ho
        · injection e with e
          subst e
          exact ⟨hhi, by omega, hq, fun m m1 m2 => by omega⟩
        · have := hall i (by omega) (by omega)
          rw [hq] at this
          cases this
      · obtain rfl : j = i := by omega
        rw [hi] at ho
        injection ho with ho
        subst ho
        refine ⟨hac', fun b hb0 hb1 hb2 hb3 => hseg' b hb0 hb1, fun _ m => hseg' m, fun k ok hok hhk hk hall => ?_⟩
        have := hall j (by omega) (Nat.le_refl _)
        rw [hq] at this
        cases this

theorem leadN_le : ∀ (qs hs : List Bool) (os : List Oper), leadN qs hs os ≤ os.length
  | qs, hs, [] => by cases qs <;> cases hs <;> simp [leadN]
  | qs, hs, o :: os => by
    unfold leadN
    split
    · have := leadN_le qs.tail hs.tail os; simp; omega
    · simp

theorem leadN_spec : ∀ (qs hs : List Bool) (os : List Oper) (i : Nat) (o : Oper), i < leadN qs hs os → os[i]? = some o → isLead (qs.getD i false) (hs.getD i false) o = true
  | qs, hs, [], i, o, hi, ho => by simp at ho
  | qs, hs, o0 :: os, i, o, hi, ho => by
    unfold leadN at hi
    split at hi
    · rename_i hl
      cases i with
      | zero =>
        simp only [List.getElem?_cons_zero, Option.some.injEq] at ho
        subst ho
        have : qs.getD 0 false = qs.headD false := by cases qs <;> rfl
        rw [this]
        have : hs.getD 0 false = hs.headD false := by cases hs <;> rfl
        rw [this]; exact hl
      | succ i =>
        have e1 : qs.getD (i + 1) false = qs.tail.getD i false := by cases qs <;> simp [List.getD]
        have e2 : hs.getD (i + 1) false = hs.tail.getD i false := by cases hs <;> simp [List.getD]
        rw [e1, e2]
        exact leadN_spec qs.tail hs.tail os i o (by omega) (by simpa using ho)
    · omega

theorem leadOk_spec : ∀ (h i : Nat) (os : List Oper), leadOk ops h i os = true → ∀ (j : Nat) (o : Oper), j < h → os[j]? = some o →
    (∀ e ∈ o.after, Region.binds .any e = true → e.on < i + j) ∧ ∀ (k : Nat) (ok : Oper), j < k → os[k]? = some ok → hasEdge ok (i + j) = true ∨ o.apart ops ok = true
  | 0, i, os, _, j, o, hj, _ => by omega
  | h + 1, i, [], _, j, o, _, ho => by simp at ho
  | h + 1, i, o0 :: os, hg, j, o, hj, ho => by
    simp only [leadOk, Bool.and_eq_true] at hg
    obtain ⟨⟨h1, h2⟩, h3⟩ := hg
    cases j with
    | zero =>
      simp only [List.getElem?_cons_zero, Option.some.injEq] at ho
      subst ho
      refine ⟨fun e he hb => ?_, fun k ok hk hok => ?_⟩
      · have := List.all_eq_true.1 h1 e (by simpa using he)
        simpa [hb] using this
      · cases k with
        | zero => omega
        | succ k =>
          have := List.all_eq_true.1 h2 ok (List.mem_of_getElem? (by simpa using hok))
          simpa using this
    | succ j =>
      obtain ⟨g1, g2⟩ := leadOk_spec h (i + 1) os h3 j o (by omega) (by simpa using ho)
      refine ⟨fun e he hb => by have := g1 e he hb; omega, fun k ok hk hok => ?_⟩
      cases k with
      | zero => omega
      | succ k =>
        have := g2 k ok (by omega) (by simpa using hok)
        rwa [show i + 1 + j = i + (j + 1) by omega] at this

theorem good_of_reg {qs hs : List Bool} (hg : goodReg ops qs hs = true) : Lead ops (fun j => qs.getD j false) (fun j => hs.getD j false) (leadN qs hs ops.toList) ∧ Good ops (leadN qs hs ops.toList) (fun j => qs.getD j false) := by
  unfold goodReg at hg
  simp only [Bool.and_eq_true] at hg
  obtain ⟨⟨h1, h2⟩, h3⟩ := hg
  refine ⟨⟨by simpa using leadN_le qs hs ops.toList, h1, fun i o hi ho => ?_⟩, ?_⟩
  · have hl := leadN_spec qs hs ops.toList i o hi (by simpa using ho)
    obtain ⟨g1, g2⟩ := leadOk_spec _ 0 _ h2 i o hi (by simpa using ho)
    simp only [isLead, Bool.and_eq_true, Bool.not_eq_true', Option.isNone_iff_eq_none] at hl
    obtain ⟨⟨l1, l2⟩, l3⟩ := hl
    refine ⟨l1, l2, ?_, by simpa using g1, fun j oj hij hoj => by simpa using g2 j oj hij (by simpa using hoj)⟩
    split at l3
    · rename_i x hx; exact .inl ⟨x, hx⟩
    · exact .inr l3
  · have key := goodGo_spec (q := fun j => qs.getD j false) (h := leadN qs hs ops.toList) (ops.toList.drop (leadN qs hs ops.toList)) (leadN qs hs ops.toList) none [] (List.replicate (leadN qs hs ops.toList) 0) (qs.drop (leadN qs hs ops.toList)) (Nat.le_refl _) rfl
      (fun j => by simp [List.getD]) h3 (fun b e => by cases e) (fun _ m hm1 hm => by omega) (fun k ok hhk hk => by omega) (fun k m hk hm => by
        rw [List.getD, List.getElem?_replicate] at hm
        split at hm <;> simp at hm)
    exact ⟨fun i o hi ho => (key i o hi ho).1, fun b i o ho hh hb hq hm => (key i o (by omega) ho).2.1 b hh hb hq hm, fun b m o ho hh hq hm => (key b o (by omega) ho).2.2.1 hq m hh hm,
      fun k i ok oi hok hoi hh hk hm => (key i oi (by omega) hoi).2.2.2 k ok hok hh hk hm⟩

theorem ancsOf_spec : ∀ (os : List Oper) (i : Nat) (ancs : List Nat), os = ops.toList.drop i → i ≤ ops.size →
    (∀ (j : Nat) (o : Oper), ops[j]? = some o → ∀ e ∈ o.after.toList, Region.binds .any e = true → e.on < j) →
    (∀ (k m : Nat), k < i → (ancs.getD (i - 1 - k) 0).testBit m = true → Anc ops m k) →
    ∀ (k m : Nat), k < ops.size → ((ancsOf i ancs os).getD (ops.size - 1 - k) 0).testBit m = true → Anc ops m k
  | [], i, ancs, hos, hi, _, ha, k, m, hk, hm => by
    have : ops.toList.length ≤ i := List.drop_eq_nil_iff.1 hos.symm
    simp at this
    have e : i = ops.size := by omega
    subst e
    exact ha k m hk hm
  | o0 :: os, i, ancs, hos, hi, hac, ha, k, m, hk, hm => by
    have hi0 : ops[i]? = some o0 := by
      have := congrArg (fun q : List Oper => q[0]?) hos
      simp only [List.getElem?_cons_zero, List.getElem?_drop, Nat.add_zero, Array.getElem?_toList] at this
      exact this.symm
    have hlt := (Array.getElem?_eq_some_iff.1 hi0).1
    have hos' : os = ops.toList.drop (i + 1) := by
      have := congrArg List.tail hos
      simpa [List.tail_drop] using this
    have hmask : ∀ m, (maskOf i ancs o0.after.toList 0).testBit m = true → Anc ops m i := fun m hm => by
      rcases maskOf_spec hm with h | ⟨e, he, hbn, h⟩
      · simp at h
      · have hedge : ∀ m, e.on = m → hasEdge o0 m = true := fun m hem => List.any_eq_true.2 ⟨e, he, by simp [hbn, hem]⟩
        rcases h with h | h
        · exact .edge hi0 (hedge m h)
        · exact .more (ha e.on m (hac i o0 hi0 e he hbn) h) hi0 (hedge e.on rfl)
    refine ancsOf_spec os (i + 1) _ hos' (by omega) hac (fun k m hk hm => ?_) k m hk hm
    by_cases e : k = i
    · subst e
      have e0 : k + 1 - 1 - k = 0 := by omega
      rw [e0] at hm
      exact hmask m (by simpa [List.getD] using hm)
    · have e0 : i + 1 - 1 - k = (i - 1 - k) + 1 := by omega
      rw [e0] at hm
      exact ha k m (by omega) (by simpa [List.getD] using hm)
theorem getD_tail (l : List Bool) (j : Nat) : l.tail.getD j false = l.getD (j + 1) false := by cases l <;> simp [List.getD]
theorem getD_head (l : List Bool) : l.getD 0 false = l.headD false := by cases l <;> rfl
theorem stillTo_spec {st : Op → Bool} {mk : Oper → Bool} : ∀ (os : List Oper) (qs hs : List Bool), stillTo st mk qs hs os = true → ∀ (k : Nat) (o : Oper), os[k]? = some o → (∀ m, m ≤ k → qs.getD m false = true) → (hs.getD k false = false → st o.op = true ∨ mk o = true) ∧ (hs.getD k false = true → o.guard.isNone = true)
  | [], _, _, _, k, o, ho, _ => by simp at ho
  | o0 :: os, qs, hs, h, k, o, ho, hq => by
    unfold stillTo at h
    have h0 := hq 0 (Nat.zero_le _)
    rw [getD_head] at h0
    rw [h0] at h
    simp only [Bool.and_eq_true] at h
    cases k with
    | zero =>
      simp only [List.getElem?_cons_zero, Option.some.injEq] at ho
      subst ho
      rw [getD_head]
      obtain ⟨h1, _⟩ := h
      refine ⟨fun e => ?_, fun e => ?_⟩
      · rw [e] at h1
        simpa only [Bool.or_eq_true] using h1
      · rw [e] at h1
        exact h1
    | succ k =>
      have := stillTo_spec os qs.tail hs.tail h.2 k o (by simpa using ho) fun m hm => by rw [getD_tail]; exact hq (m + 1) (by omega)
      rw [getD_tail] at this
      exact this
theorem halfGo_spec {st : Op → Bool} {mk : Oper → Bool} {h n : Nat} {ancs : List Nat} : ∀ (os : List Oper) (i : Nat) (qs hs : List Bool), halfGo st mk h n ancs i qs hs os = true → ∀ (j : Nat), j < os.length → hs.getD j false = true → h ≤ i + j →
    qs.getD j false = true ∧ (∀ m, h ≤ m → m < i + j → (ancs.getD (n - 1 - (i + j)) 0).testBit m = true) ∧
      ∀ (k : Nat) (o : Oper), j < k → os[k]? = some o → (∀ m, j ≤ m → m ≤ k → qs.getD m false = true) → (hs.getD k false = false → st o.op = true ∨ mk o = true) ∧ (hs.getD k false = true → o.guard.isNone = true)
  | [], _, _, _, _, j, hj, _, _ => by simp at hj
  | o0 :: os, i, qs, hs, hg, j, hj, hh, hij => by
    unfold halfGo at hg
    rw [Bool.and_eq_true] at hg
    obtain ⟨h1, h2⟩ := hg
    cases j with
    | zero =>
      rw [getD_head] at hh
      rw [hh] at h1
      simp only [Bool.or_eq_true, decide_eq_true_eq] at h1
      have h1 := h1.resolve_left (by omega)
      simp only [Bool.and_eq_true] at h1
      obtain ⟨⟨g1, g2⟩, g3⟩ := h1
      refine ⟨by rw [getD_head]; exact g1, fun m m1 m2 => ?_, fun k o k1 k2 k3 => ?_⟩
      · have := List.all_eq_true.1 g2 m (List.mem_range.2 (by omega))
        simp only [Bool.or_eq_true, decide_eq_true_eq] at this
        exact this.resolve_left (by omega)
      · cases k with
        | zero => omega
        | succ k =>
          have := stillTo_spec os qs.tail hs.tail g3 k o (by simpa using k2) fun m hm => by rw [getD_tail]; exact k3 (m + 1) (by omega) (by omega)
          rw [getD_tail] at this
          exact this
    | succ j =>
      obtain ⟨g1, g2, g3⟩ := halfGo_spec os (i + 1) qs.tail hs.tail h2 j (by simpa using hj) (by rw [getD_tail]; exact hh) (by omega)
      rw [getD_tail] at g1
      refine ⟨g1, fun m m1 m2 => ?_, fun k o k1 k2 k3 => ?_⟩
      · have := g2 m m1 (by omega)
        rwa [show i + 1 + j = i + (j + 1) by omega] at this
      · cases k with
        | zero => omega
        | succ k =>
          have := g3 k o (by omega) (by simpa using k2) fun m m1 m2 => by rw [getD_tail]; exact k3 (m + 1) (by omega) (by omega)
          rw [getD_tail] at this
          exact this
theorem oneHalf_spec {h : Nat} {hs : List Bool} (hg : oneHalf h ops hs = true) {y : Nat} (h1 : h ≤ y) (h2 : hs.getD y false = true) : (∀ m, h ≤ m → hs.getD m false = true → m = y) ∧ ∃ oy, ops[y]? = some oy ∧ isCallF oy.op = true := by
  have lt : ∀ {m : Nat}, hs.getD m false = true → m < hs.length := fun {m} hm => by
    rcases Nat.lt_or_ge m hs.length with h | h
    · exact h
    · rw [List.getD, List.getElem?_eq_none h] at hm; cases hm
  have := List.all_eq_true.1 hg y (List.mem_range.2 (lt h2))
  simp only [h2, Bool.or_eq_true, decide_eq_true_eq, Bool.not_true, Bool.false_eq_true, or_false, Bool.and_eq_true] at this
  obtain ⟨g1, g2⟩ := this.resolve_left (by omega)
  refine ⟨fun m m1 m2 => ?_, ?_⟩
  · have := List.all_eq_true.1 g2 m (List.mem_range.2 (lt m2))
    simp only [m2, Bool.or_eq_true, decide_eq_true_eq, Bool.not_true, Bool.false_eq_true, or_false] at this
    exact this.resolve_left (by omega)
  · cases ho : ops[y]? with
    | none => rw [ho] at g1; cases g1
    | some oy => rw [ho] at g1; exact ⟨oy, rfl, g1⟩
theorem half_of_reg {T : Tab} {mk : Oper → Bool} {qs hs : List Bool} (hl : ∀ i, i < leadN qs hs ops.toList → qs.getD i false = false) (hg : halfReg (still T) mk ops qs hs = true) : HalfSt T mk ops (fun j => qs.getD j false) (fun j => hs.getD j false) (leadN qs hs ops.toList) := by
  unfold halfReg at hg
  split at hg
  · exact ⟨fun y _ h => by simp [List.getD] at h, fun y _ h => by simp [List.getD] at h, fun y k o h => by simp [List.getD] at h⟩
  · rw [Bool.and_eq_true, Bool.and_eq_true] at hg
    obtain ⟨⟨h0, h1⟩, h2⟩ := hg
    have hac : ∀ (j : Nat) (o : Oper), ops[j]? = some o → ∀ e ∈ o.after.toList, Region.binds .any e = true → e.on < j := fun j o ho e he hb => by
      have hm : (o, j) ∈ ops.toList.zipIdx := List.mem_zipIdx_iff_getElem?.2 (by simpa using ho)
      have := List.all_eq_true.1 (List.all_eq_true.1 h1 (o, j) hm) e he
      simpa [hb] using this
    have anc := ancsOf_spec ops.toList 0 [] rfl (by omega) hac (fun k m hk => by omega)
    have key := halfGo_spec ops.toList 0 qs hs h2
    have out : ∀ y, hs.getD y false = true → ops.size ≤ y → qs.getD y false = true := fun y h1 h2 => by
      have h0' := of_decide_eq_true h0
      rw [List.getD, List.getElem?_eq_none (by omega)] at h1
      cases h1
    refine ⟨fun y hhy hy => ?_, fun y hlt hy m m1 m2 => ?_, fun y k o hy h3 ho hq => ?_⟩
    · rcases Nat.lt_or_ge y ops.size with h | h
      · exact (key y (by simpa using h) hy (by omega)).1
      · exact out y hy h
    · have := (key y (by simpa using hlt) hy (by omega)).2.1 m m1 (by omega)
      rw [Nat.zero_add] at this
      exact anc y m hlt this
    · have hlt := (Array.getElem?_eq_some_iff.1 ho).1
      have hhy : leadN qs hs ops.toList ≤ y := by
        rcases Nat.lt_or_ge y (leadN qs hs ops.toList) with h | h
        · have h1 := hl y h
          have h2 := hq y (Nat.le_refl _) (by omega)
          rw [h1] at h2; cases h2
        · exact h
      obtain ⟨e1, e2⟩ := (key y (by simp; omega) hy (by omega)).2.2 k o h3 (by simpa using ho) hq
      refine ⟨fun e => (e1 e).imp id fun g => ?_, e2⟩
      rw [Bool.and_eq_true] at g
      exact ⟨g.1, oneHalf_spec g.2 hhy hy⟩
end

/-! ### Code -/
def Ex.toExit : Ex → Exit
  | .normal => .normal
  | .exit id => .exit id
  | .ret => .ret

section
variable {P : Program} {T : Tab} {R : Type}

def CodeOK (P : Program) (T : Tab) (c : Code) (e : Env) (l : Locs) (σ : Heap) (x : Ex) (e' : Env) (l' : Locs) (σ' : Heap) : Prop :=
  ∀ (ds : List Deferred) (ρ : Mp) (lm : Lp) (a : Act) (w : World), SRel T ds ρ lm e l σ a w →
    c.wp P (fun ex a' w' => ex = x.toExit ∧ ∃ ρ' lm', SRel T ds ρ' lm' e' l' σ' a' w' ∧ Step ρ lm l σ w ρ' lm' l' σ' w') a w

theorem exists_least {p : Nat → Prop} : ∀ k, p k → ∃ m, p m ∧ ∀ j, p j → m ≤ j := fun k => by
  induction k using Nat.strongRecOn with
  | _ k ih =>
    intro hk
    by_cases h : ∃ j, j < k ∧ p j
    · obtain ⟨j, h1, h2⟩ := h
      exact ih j h1 h2
    · exact ⟨k, hk, fun j hj => Nat.le_of_not_lt fun hlt => h ⟨j, hlt, hj⟩⟩

theorem wp_loop_n {c : Code} {Q : Exit → Act → World → Prop} {a : Act} {w : World} (I : Nat → Act → World → Prop) {n : Nat} (h0 : I n a w)
    (round : ∀ k a w, I k a w → c.wp P (Exit.then (fun a' w' => ∃ j, j < k ∧ I j a' w') Q) a w) : (Code.loop c).wp P Q a w := by
  classical
  let μ : Act → World → Nat := fun a w => if h : ∃ m, I m a w ∧ ∀ j, I j a w → m ≤ j then h.choose else 0
  have hμ : ∀ a w k, I k a w → I (μ a w) a w ∧ μ a w ≤ k := fun a w k hk => by
    have h := exists_least (p := fun m => I m a w) k hk
    have e : μ a w = h.choose := dif_pos h
    rw [e]
    exact ⟨h.choose_spec.1, h.choose_spec.2 k hk⟩
  refine wp_loop (fun a w => ∃ k, I k a w) μ ⟨n, h0⟩ fun a w hI => ?_
  obtain ⟨k, hk⟩ := hI
  refine wp_mono (round (μ a w) a w (hμ a w k hk).1) fun e a' w' h => ?_
  cases e with
  | normal =>
    obtain ⟨j, h1, h2⟩ := h
    exact ⟨⟨j, h2⟩, by have := (hμ a' w' j h2).2; omega⟩
  | _ => exact h

theorem maskE_getD : ∀ (m : List Nat) (e : Env) (t : Nat), (maskE m e).getD t .undef = e.getD t .undef ∨ (maskE m e).getD t .undef = .undef
  | [], e, t => .inl rfl
  | s :: m, e, t => by
    simp only [maskE]
    rcases maskE_getD m (e.set s .undef) t with h | h
    · rw [h]
      by_cases hs : s = t
      · subst hs
        by_cases hl : s < e.length
        · right; simp [List.getD, hl]
        · right; rw [List.getD, List.getElem?_eq_none (by rw [List.length_set]; omega)]; rfl
      · left; simp [List.getD, hs]
    · exact .inr h
theorem maskE_length : ∀ (m : List Nat) (e : Env), (maskE m e).length = e.length
  | [], e => rfl
  | s :: m, e => by simp only [maskE]; rw [maskE_length m]; simp

theorem ARel.mask {ρ : Mp} {lm : Lp} {e : Env} {a : Act} (h : ARel ds ρ lm e a) (m : List Nat) : ARel ds ρ lm (maskE m e) a where
  size := by rw [maskE_length]; exact h.size
  val := fun t v hv => by
    rcases maskE_getD m e t with h' | h'
    · rw [h']; exact h.val t v hv
    · rw [h']; simp [VRel]
  defers := h.defers

theorem hasTs_getD : ∀ {e : List AVal} {t : Nat}, hasTs t e = false → ∀ s, (e.getD s .undef).hasT t = false
  | [], t, _, s => by simp [List.getD, AVal.hasT]
  | x :: xs, t, h, s => by
    simp only [hasTs, Bool.or_eq_false_iff] at h
    cases s with
    | zero => simpa [List.getD] using h.1
    | succ s => simpa [List.getD] using hasTs_getD h.2 s

theorem maskL_rel {ρ : Mp} {e : Env} {σ : Heap} {a : Act} {w : World} : ∀ (m : List Nat) {lm : Lp} {l : Locs}, SRel T ds ρ lm e l σ a w →
    ∃ lm', SRel T ds ρ lm' e (maskL e m l) σ a w ∧ Step ρ lm l σ w ρ lm' (maskL e m l) σ w
  | [], lm, l, h => ⟨lm, h, Step.refl ..⟩
  | t :: m, lm, l, h => by
    simp only [maskL]
    split
    · exact maskL_rel m h
    · rename_i hT
      let lm1 : Lp := fun s => if s = t then none else lm s
      have h1 : ∀ s k, lm1 s = some k → s ≠ t ∧ lm s = some k := fun s k hk => by
        simp only [lm1] at hk
        split at hk
        · cases hk
        · rename_i hne; exact ⟨hne, hk⟩
      have hg : ∀ s, s ≠ t → (l.set t .none).getD s .none = l.getD s .none := fun s hs => by simp [List.getD, List.getElem?_set_ne (Ne.symm hs)]
      have hS : SRel T ds ρ lm1 e (l.set t .none) σ a w := ⟨⟨h.act.size, fun s v hv => (h.act.val s v hv).turn (fun s hs => by simp [lm1, hs]) (hasTs_getD hT s), h.act.defers⟩, h.heap,
        ⟨fun s k hk => by
          obtain ⟨g1, g2⟩ := h1 s k hk
          rw [hg s g1]
          exact h.loc.loc s k g2, fun s s' k hk hk' => h.loc.inj s s' k (h1 s k hk).2 (h1 s' k hk').2, fun s k b pl x hk => h.loc.apart s k b pl x (h1 s k hk).2⟩, h.glob⟩
      obtain ⟨lm', q1, q2⟩ := maskL_rel m hS
      refine ⟨lm', q1, Step.trans ?_ q2⟩
      exact ⟨rfl, rfl, rfl, Nat.le_refl _, Nat.le_refl _, fun _ _ h => h, fun _ h h' => absurd h h', fun _ _ _ _ => rfl, fun b pl x h hx hr => .inr ⟨b, pl, x, h, hx, hr, rfl⟩, fun _ _ h _ => h, fun _ _ h _ => h,
        fun s k hk hr => by
          obtain ⟨g1, g2⟩ := h1 s k hk
          rw [hg s g1] at hr
          exact .inr ⟨s, g2, hr⟩⟩

/-- The rounds of a loop. -/
def LoopTr (P : Program) (T : Tab) (c : Code) (m : List Nat) (x : Ex) (e' : Env) (l' : Locs) (σ' : Heap) : Nat → Env → Locs → Heap → Prop
  | 0, _, _, _ => False
  | n + 1, e, l, σ => ∃ y e1 l1 σ1, CodeOK P T c e l σ y e1 l1 σ1 ∧
      ((y = .normal ∧ LoopTr P T c m x e' l' σ' n (maskE m e1) (maskL (maskE m e1) m l1) σ1) ∨ (y ≠ .normal ∧ y = x ∧ e1 = e' ∧ l1 = l' ∧ σ1 = σ'))

theorem loop_ok {c : Code} {m : List Nat} {x : Ex} {e' : Env} {l' : Locs} {σ' : Heap} {n : Nat} {e : Env} {l : Locs} {σ : Heap} (h : LoopTr P T c m x e' l' σ' n (maskE m e) (maskL (maskE m e) m l) σ) : CodeOK P T (.loop c) e l σ x e' l' σ' := by
  intro ds ρ lm a w hs
  obtain ⟨lm0, k1, k2⟩ := maskL_rel m (⟨hs.act.mask m, hs.heap, hs.loc, hs.glob⟩ : SRel T ds ρ lm (maskE m e) l σ a w)
  refine wp_loop_n (fun k a1 w1 => ∃ e1 l1 σ1 ρ1 lm1, LoopTr P T c m x e' l' σ' k e1 l1 σ1 ∧ SRel T ds ρ1 lm1 e1 l1 σ1 a1 w1 ∧ Step ρ lm l σ w ρ1 lm1 l1 σ1 w1) ⟨_, _, σ, ρ, lm0, h, k1, k2⟩ ?_
  intro k a1 w1 ⟨e1, l1, σ1, ρ1, lm1, ht, hs1, hst⟩
  cases k with
  | zero => exact ht.elim
  | succ k =>
    obtain ⟨y, e2, l2, σ2, hc, hy⟩ := ht
    refine wp_mono (hc ds ρ1 lm1 a1 w1 hs1) fun ex a2 w2 hq => ?_
    obtain ⟨rfl, ρ2, lm2, hs2, hst2⟩ := hq
    rcases hy with ⟨rfl, hy⟩ | ⟨hne, rfl, rfl, rfl, rfl⟩
    · obtain ⟨lm2', m1, m2⟩ := maskL_rel m (⟨hs2.act.mask m, hs2.heap, hs2.loc, hs2.glob⟩ : SRel T ds ρ2 lm2 (maskE m e2) l2 σ2 a2 w2)
      exact ⟨k, by omega, _, _, σ2, ρ2, lm2', hy, m1, hst.trans (hst2.trans m2)⟩
    · cases y with
      | normal => exact absurd rfl hne
      | exit id => exact ⟨rfl, ρ2, lm2, hs2, hst.trans hst2⟩
      | ret => exact ⟨rfl, ρ2, lm2, hs2, hst.trans hst2⟩

theorem iterC_sound {c : Code} {m : List Nat} {body : Env → Locs → Heap → Cont R → Option R} {r : R}
    (hb : ∀ {e l σ K}, body e l σ K = some r → ∃ x e' l' σ', K x e' l' σ' = some r ∧ CodeOK P T c e l σ x e' l' σ') :
    ∀ {n : Nat} {e : Env} {l : Locs} {σ : Heap} {K : Cont R}, iterC m body n e l σ K = some r → ∃ x e' l' σ', K x e' l' σ' = some r ∧ LoopTr P T c m x e' l' σ' n e l σ
  | 0, e, l, σ, K, h => by simp [iterC] at h
  | n + 1, e, l, σ, K, h => by
    simp only [iterC] at h
    obtain ⟨y, e1, l1, σ1, h1, h2⟩ := hb h
    cases y with
    | normal =>
      obtain ⟨x, e', l', σ', h3, h4⟩ := iterC_sound hb h1
      exact ⟨x, e', l', σ', h3, _, e1, l1, σ1, h2, .inl ⟨rfl, h4⟩⟩
    | exit id => exact ⟨_, e1, l1, σ1, h1, _, e1, l1, σ1, h2, .inr ⟨by simp, rfl, rfl, rfl, rfl⟩⟩
    | ret => exact ⟨_, e1, l1, σ1, h1, _, e1, l1, σ1, h2, .inr ⟨by simp, rfl, rfl, rfl, rfl⟩⟩

theorem codeC_sound (ok : TabOK P T) {n : Nat} {f : FuncId} {callF : CallF R} (hc : CallFOK P T callF) {r : R} : ∀ (c : Code), goodCode T f c = true → ∀ {e : Env} {l : Locs} {σ : Heap} {K : Cont R},
    codeC T n f callF c e l σ K = some r → ∃ x e' l' σ', K x e' l' σ' = some r ∧ CodeOK P T c e l σ x e' l' σ' := by
  intro c
  induction c with
  | skip =>
    intro _ e l σ K h
    simp only [codeC] at h
    exact ⟨_, _, _, _, h, fun ds ρ lm a w hs => wp_skip ⟨rfl, ρ, lm, hs, Step.refl ..⟩⟩
  | region id ops draw =>
    intro hg e l σ K h
    simp only [codeC] at h
    cases draw with
    | false =>
      obtain ⟨e', l', σ', h1, h2⟩ := opsC_trace ok hc h
      exact ⟨_, _, _, _, h1, fun ds ρ lm a w hs => region_seq h2 hs fun ρ' lm' a' w' s1 s2 => ⟨rfl, ρ', lm', s1, s2⟩⟩
    | true =>
      obtain ⟨e', l', σ', h1, h2⟩ := opsC_trace ok hc h
      refine ⟨_, _, _, _, h1, fun ds ρ lm a w hs => ?_⟩
      have hg' : (goodReg (permOps (T.perm f id) ops) (T.quiet f id) (T.half f id) && halfReg (still T) (isMaker T f) (permOps (T.perm f id) ops) (T.quiet f id) (T.half f id) && permOk (T.perm f id) ops) = true := hg
      rw [Bool.and_eq_true, Bool.and_eq_true] at hg'
      obtain ⟨ld, good⟩ := good_of_reg hg'.1.1
      exact region_draw ok.mixed hg'.2 (half_of_reg (fun i hi => by
        obtain ⟨o, ho⟩ : ∃ o, (permOps (T.perm f id) ops)[i]? = some o := ⟨_, Array.getElem?_eq_getElem (Nat.lt_of_lt_of_le hi ld.le)⟩
        exact (ld.each i o hi ho).1) hg'.1.2) ld good h2 hs (fun c a w hq => by cases hq.1) fun ρ' lm' a' w' s1 s2 => ⟨rfl, ρ', lm', s1, s2⟩
  | seq a b iha ihb =>
    intro hg e l σ K h
    simp only [goodCode, Bool.and_eq_true] at hg
    simp only [codeC] at h
    obtain ⟨x, e1, l1, σ1, h1, h2⟩ := iha hg.1 h
    cases x with
    | normal =>
      simp only [joinC_eq] at h1
      obtain ⟨x, e', l', σ', h3, h4⟩ := ihb hg.2 h1
      refine ⟨x, e', l', σ', h3, fun ds ρ lm a w hs => wp_seq (wp_mono (h2 ds ρ lm a w hs) fun ex a1 w1 hq => ?_)⟩
      obtain ⟨rfl, ρ1, lm1, s1, s2⟩ := hq
      obtain ⟨lm1', m1, m2⟩ := maskL_rel _ (⟨s1.act.mask _, s1.heap, s1.loc, s1.glob⟩ : SRel T ds ρ1 lm1 (maskE (T.join f (firstRegion b)) e1) l1 σ1 a1 w1)
      exact wp_mono (h4 ds ρ1 lm1' a1 w1 m1) fun ex a2 w2 ⟨hx, ρ2, lm2, t1, t2⟩ => ⟨hx, ρ2, lm2, t1, s2.trans (m2.trans t2)⟩
    | exit id =>
      refine ⟨_, _, _, _, h1, fun ds ρ lm a w hs => wp_seq (wp_mono (h2 ds ρ lm a w hs) fun ex a1 w1 hq => ?_)⟩
      obtain ⟨rfl, hq⟩ := hq
      exact ⟨rfl, hq⟩
    | ret =>
      refine ⟨_, _, _, _, h1, fun ds ρ lm a w hs => wp_seq (wp_mono (h2 ds ρ lm a w hs) fun ex a1 w1 hq => ?_)⟩
      obtain ⟨rfl, hq⟩ := hq
      exact ⟨rfl, hq⟩
  | cond c a b iha ihb =>
    intro hg e l σ K h
    simp only [goodCode, Bool.and_eq_true] at hg
    simp only [codeC] at h
    split at h
    · rename_i t hct
      have key : ∀ (ds : List Deferred) ρ lm (A : Act) w, SRel T ds ρ lm e l σ A w → A.eval c = .bool t := fun ds ρ lm A w hs => by
        have := ev_rel hs.act hs.glob c
        rw [hct] at this
        simpa only [VRel] using this
      cases t with
      | true =>
        obtain ⟨x, e', l', σ', h1, h2⟩ := iha hg.1 h
        exact ⟨x, e', l', σ', h1, fun ds ρ lm A w hs => wp_cond_true (key ds ρ lm A w hs) (h2 ds ρ lm A w hs)⟩
      | false =>
        obtain ⟨x, e', l', σ', h1, h2⟩ := ihb hg.2 h
        exact ⟨x, e', l', σ', h1, fun ds ρ lm A w hs => wp_cond_false (key ds ρ lm A w hs) (h2 ds ρ lm A w hs)⟩
    · cases h
  | block id c ih =>
    intro hg e l σ K h
    simp only [codeC] at h
    obtain ⟨x, e1, l1, σ1, h1, h2⟩ := ih hg h
    cases x with
    | normal =>
      refine ⟨_, _, _, _, h1, fun ds ρ lm a w hs => wp_block (wp_mono (h2 ds ρ lm a w hs) fun ex a1 w1 hq => ?_)⟩
      obtain ⟨rfl, hq⟩ := hq
      exact ⟨rfl, hq⟩
    | exit id' =>
      simp only [] at h1
      split at h1
      · rename_i hid
        refine ⟨_, _, _, _, h1, fun ds ρ lm a w hs => wp_block (wp_mono (h2 ds ρ lm a w hs) fun ex a1 w1 hq => ?_)⟩
        obtain ⟨rfl, hq⟩ := hq
        simp only [Ex.toExit, Exit.inBlock, hid, if_true]
        exact ⟨trivial, hq⟩
      · rename_i hid
        refine ⟨_, _, _, _, h1, fun ds ρ lm a w hs => wp_block (wp_mono (h2 ds ρ lm a w hs) fun ex a1 w1 hq => ?_)⟩
        obtain ⟨rfl, hq⟩ := hq
        simp only [Ex.toExit, Exit.inBlock, hid, if_false]
        exact ⟨trivial, hq⟩
    | ret =>
      refine ⟨_, _, _, _, h1, fun ds ρ lm a w hs => wp_block (wp_mono (h2 ds ρ lm a w hs) fun ex a1 w1 hq => ?_)⟩
      obtain ⟨rfl, hq⟩ := hq
      exact ⟨rfl, hq⟩
  | loop c ih =>
    intro hg e l σ K h
    simp only [codeC] at h
    obtain ⟨x, e', l', σ', h1, h2⟩ := iterC_sound (c := c) (fun h => ih hg h) h
    exact ⟨x, e', l', σ', h1, loop_ok h2⟩
  | exit id =>
    intro _ e l σ K h
    simp only [codeC] at h
    exact ⟨_, _, _, _, h, fun ds ρ lm a w hs => wp_exit ⟨rfl, ρ, lm, hs, Step.refl ..⟩⟩
  | ret =>
    intro _ e l σ K h
    simp only [codeC] at h
    exact ⟨_, _, _, _, h, fun ds ρ lm a w hs => wp_ret ⟨rfl, ρ, lm, hs, Step.refl ..⟩⟩
  | _ => intro _ e l σ K h; simp [codeC] at h

/-! ### Results, calls -/
def resultOf (tmps : Array Value) : ResultVar → Sem Value
  | .tmp t => pure (tmps.getD t undef)
  | .cell a t => do loadVar t (← asAddr (tmps.getD a undef))

theorem resultC_sound (ok : TabOK P T) {e : Env} {l : Locs} {σ : Heap} {rv : ResultVar} {k : AVal → Option R} {r : R} (h : resultC T e l σ rv k = some r) :
    ∃ v, k v = some r ∧ ∀ (ds : List Deferred) ρ lm a w, SRel T ds ρ lm e l σ a w → ∃ cv, (resultOf a.tmps rv).run P w = .ok cv w ∧ VRel ρ noL v cv := by
  have gt : ∀ {ds : List Deferred} {ρ lm a w}, SRel T ds ρ lm e l σ a w → ∀ t, VRel ρ lm (e.getD t .undef) (a.tmps.getD t undef) := fun hs t => ev_rel (T := T) hs.act hs.glob (.tmp t)
  cases rv with
  | tmp t =>
    simp only [resultC] at h
    split at h
    · rename_i hn
      refine ⟨_, h, fun ds ρ lm a w hs => ⟨a.tmps.getD t undef, rfl, (gt hs t).noLoc hn⟩⟩
    · cases h
  | cell a0 t =>
    simp only [resultC] at h
    obtain ⟨i, hi, h⟩ := Option.bind_eq_some_iff.1 h
    obtain ⟨inf, d, z, ti⟩ := ok.tis hi
    split at h
    · rename_i p hx
      obtain ⟨⟨b, o'⟩, hq, h⟩ := Option.bind_eq_some_iff.1 h
      obtain ⟨zs, hk, hl, hz⟩ := fetches_some h
      refine ⟨_, hk, fun ds ρ lm A w hs => ?_⟩
      have h1 := gt hs a0
      rw [hx, hq] at h1
      obtain ⟨pl, hp, hv⟩ := by simpa only [VRel] using h1
      obtain ⟨vs, l2, hr, hc⟩ := zs_rel (ρ := ρ) (lm := noL) (cell := fun m => w.cell? ⟨pl.blk, pl.off + (o' + m), none⟩) (fun m y hy => cell_rel hs.heap hp hy) hz
      refine ⟨if i.agg then .agg vs.toArray else vs.headD Go.undef, ?_, ti.val_rel hl (hr.any noL)⟩
      have := ti.run_loadVar w ⟨pl.blk, pl.off + o', none⟩ vs (l2.trans hl) (fun j v hj => by rw [add_none, Nat.add_assoc]; exact hc j v hj)
      simp [resultOf, hv, asAddr, this]
    · rename_i s o' hx
      split at h
      · rename_i cs hcs
        obtain ⟨zs, hk, hl, hz⟩ := fetches_some h
        refine ⟨_, hk, fun ds ρ lm A w hs => ?_⟩
        have h1 := gt hs a0
        rw [hx] at h1
        obtain ⟨b, hb, hv⟩ := by simpa only [VRel] using h1
        obtain ⟨_, h2⟩ := hs.loc.loc s b hb
        obtain ⟨c, ty, fr, g1, g2, g3, _⟩ := h2.of_cells hcs
        obtain ⟨vs, l2, hr, hc⟩ := zs_rel (ρ := ρ) (lm := noL) (cell := fun m => w.cell? ⟨b, o' + m, none⟩) (fun m y hy => by
          obtain ⟨v, e, hr⟩ := g3.get _ y hy
          exact ⟨v, by simpa [World.cell?, g1] using e, hr⟩) hz
        refine ⟨if i.agg then .agg vs.toArray else vs.headD Go.undef, ?_, ti.val_rel hl (hr.any noL)⟩
        have := ti.run_loadVar w ⟨b, o', none⟩ vs (l2.trans hl) (fun j v hj => by rw [add_none]; exact hc j v hj)
        simp [resultOf, hv, asAddr, this]
      · cases h
    · cases h

theorem resultsC_sound (ok : TabOK P T) {e : Env} {l : Locs} {σ : Heap} {r : R} : ∀ {rs : List ResultVar} {k : List AVal → Option R}, resultsC T e l σ rs k = some r →
    ∃ vs, k vs = some r ∧ ∀ (ds : List Deferred) ρ lm a w, SRel T ds ρ lm e l σ a w → ∃ us, (rs.mapM (resultOf a.tmps)).run P w = .ok us w ∧ VRels ρ noL vs us
  | [], k, h => ⟨[], h, fun ds ρ lm a w hs => ⟨[], rfl, by simp [VRels]⟩⟩
  | rv :: rs, k, h => by
    simp only [resultsC] at h
    obtain ⟨v, h1, h2⟩ := resultC_sound ok h
    obtain ⟨vs, h3, h4⟩ := resultsC_sound ok h1
    refine ⟨v :: vs, h3, fun ds ρ lm a w hs => ?_⟩
    obtain ⟨cv, r1, r2⟩ := h2 ds ρ lm a w hs
    obtain ⟨us, r3, r4⟩ := h4 ds ρ lm a w hs
    refine ⟨cv :: us, ?_, by simp only [VRels]; exact ⟨cv, us, rfl, r2, r4⟩⟩
    simp [List.mapM_cons, r1, r3]

def resV : List Value → Value
  | [u] => u
  | us => .tuple us.toArray
theorem run_results {fn : Func} {a : Act} {w : World} {us : List Value} (h : (fn.results.toList.mapM (resultOf a.tmps)).run P w = .ok us w) :
    (results fn a.tmps).run P w = .ok (resV us) w := by
  have e : (fn.results.mapM (resultOf a.tmps)).run P w = .ok us.toArray w := by
    rw [Array.mapM_eq_mapM_toList]
    simp [h]
  have e2 : results fn a.tmps = (do
      let vs ← fn.results.mapM (resultOf a.tmps)
      pure (if h : vs.size = 1 then vs[0] else .tuple vs)) := by
    unfold results resultOf
    rfl
  rw [e2]
  simp only [Sem.run_bind, e, Result.andThen_ok, Sem.run_pure]
  match us with
  | [] => rfl
  | [u] => rfl
  | u :: v :: us => simp [resV]

/-- What is known is so. -/
def KnownOK (P : Program) (T : Tab) (O : Known) : Prop :=
  ∀ f g, O f = some g → (∀ (ws : Array Value) (w : World), (callFunc f ws).run P w = .ok (.enter f ws) w) ∧
    ∀ (R : Type) xs σ (K : AVal → Heap → Option R) r, g R xs σ K = some r → ∃ v σ', K v σ' = some r ∧ CallOK P T f xs σ v σ'

theorem callC_sound (ok : TabOK P T) {O : Known} (kn : KnownOK P T O) (L : Nat) : ∀ (n : Nat), CallFOK P T (callC (R := R) T O L n)
  | 0 => fun g xs σ K r h => by simp [callC] at h
  | n + 1 => fun g xs σ K r h => by
    simp only [callC] at h
    split at h
    · rename_i g0 hg0
      obtain ⟨k1, k2⟩ := kn g g0 hg0
      exact ⟨k1, k2 _ xs σ K r h⟩
    rename_i hg0
    split at h
    · cases h
    · rename_i fn hfn
      split at h
      · cases h
      · rename_i c hcb
        obtain ⟨f1, f2⟩ := ok.fn g fn hfn
        obtain ⟨x, e', l', σ', h1, h2⟩ := codeC_sound ok (callC_sound ok kn L n) c (ok.good g fn c hfn hcb) h
        refine ⟨fun ws w => ?_, ?_⟩
        · simp only [beq_eq_false_iff_ne, ne_eq] at f2
          simp [callFunc, f1, f2, hcb]
        have fin : ∀ (k : List AVal → Option R), resultsC T e' l' σ' fn.results.toList k = some r → (∀ vs, k vs = (match vs with | [v] => K v σ' | vs => K (.tuple vs) σ')) → (x = .normal ∨ x = .ret) → ∃ v σ', K v σ' = some r ∧ CallOK P T g xs σ v σ' := fun k hk hkk hx => by
          obtain ⟨vs, r1, r2⟩ := resultsC_sound ok hk
          rw [hkk] at r1
          have post : ∀ (V : AVal) (hV : ∀ ρ us, VRels ρ noL vs us → VRel ρ noL V (resV us)), CallOK P T g xs σ V σ' := fun V hV => by
            intro ρ ws w hH hG hws
            have hlen := hws.length
            refine calls_of_wp f1 hcb ?_
            have hS : SRel T [] ρ noL (xs ++ List.replicate (fn.ntmps - xs.length) .undef) (List.replicate fn.ntmps .none) σ { tmps := ws.toArray ++ Array.replicate (fn.ntmps - ws.toArray.size) undef, defers := [] } w := by
              refine ⟨⟨by simp; omega, fun t v hv => ?_, rfl⟩, hH, ⟨fun t k hk => (by cases hk), fun t t' k hk => (by cases hk), fun t k b pl x hk => (by cases hk)⟩, hG⟩
              simp only [List.getD]
              by_cases ht : t < xs.length
              · rw [List.getElem?_append_left ht]
                obtain ⟨u, e1, r1⟩ := hws.get t xs[t] (by simp [ht])
                rw [Array.getElem?_append_left (by simp; omega)] at hv
                simp only [List.getElem?_toArray] at hv
                rw [e1] at hv
                injection hv with hv
                subst hv
                simpa [ht] using r1
              · rw [List.getElem?_append_right (by omega), List.getElem?_replicate]
                split <;> simp [VRel]
            refine wp_mono (h2 [] ρ noL _ w hS) fun ex a' w' hq => ?_
            obtain ⟨rfl, ρ', lm', s1, s2⟩ := hq
            obtain ⟨us, u1, u2⟩ := r2 [] ρ' lm' a' w' s1
            have post : bodyPost P fn (fun e w' => ∃ cv ρ', e = .returned cv ∧ HRel ρ' σ' w' ∧ VRel ρ' noL V cv ∧ Step ρ noL [] σ w ρ' noL [] σ' w') .ret a' w' :=
              ⟨s1.act.defers, _, run_results u1, _, ρ', rfl, s1.heap, hV ρ' us u2, ⟨s2.os, s2.tape, s2.output, s2.size, s2.len, s2.ext, s2.new, fun k hk h1 _ => s2.unch k hk h1 (fun t h => by cases h), s2.prov, s2.ro, s2.rob, fun t k h => by cases h⟩⟩
            rcases hx with rfl | rfl
            · exact post
            · exact post
          match vs, r1, post with
          | [v], r1, post =>
            refine ⟨v, σ', r1, post v fun ρ us hu => ?_⟩
            simp only [VRels] at hu
            obtain ⟨u, us', rfl, h1, rfl⟩ := hu
            exact h1
          | [], r1, post =>
            refine ⟨.tuple [], σ', r1, post _ fun ρ us hu => ?_⟩
            simp only [VRels] at hu
            subst hu
            simp only [VRel, VRels]
            exact ⟨[], rfl, rfl⟩
          | v1 :: v2 :: vs, r1, post =>
            refine ⟨.tuple (v1 :: v2 :: vs), σ', r1, post _ fun ρ us hu => ?_⟩
            have hu' := hu
            simp only [VRels] at hu
            obtain ⟨u, us', rfl, h1, u', us'', rfl, h2, h3⟩ := hu
            simp only [VRel]
            exact ⟨_, rfl, hu'⟩
        cases x with
        | normal => exact fin _ h1 (fun vs => rfl) (.inl rfl)
        | exit id => cases h1
        | ret => exact fin _ h1 (fun vs => rfl) (.inr rfl)
theorem known_none : KnownOK P T fun _ => none := fun f g h => by cases h

/-- A function is known from now on. -/
def Known.and (O : Known) (f : FuncId) (g : ∀ R : Type, CallF1 R) : Known := fun f' => match Nat.beq f f' with | true => some g | false => O f'
theorem known_ok (ok : TabOK P T) {O : Known} (kn : KnownOK P T O) {f : FuncId} {fn : Func} (hfn : T.fn f = some fn) (hb : fn.body.isSome = true) {g : ∀ R : Type, CallF1 R}
    (h : ∀ (R : Type) xs σ (K : AVal → Heap → Option R) r, g R xs σ K = some r → ∃ v σ', K v σ' = some r ∧ CallOK P T f xs σ v σ') : KnownOK P T (O.and f g) := by
  intro f' g' hg'
  unfold Known.and at hg'
  split at hg'
  · rename_i e
    injection hg' with hg'
    subst hg'
    obtain rfl := Nat.eq_of_beq_eq_true e
    obtain ⟨f1, f2⟩ := ok.fn f fn hfn
    refine ⟨fun ws w => ?_, h⟩
    simp only [beq_eq_false_iff_ne, ne_eq] at f2
    obtain ⟨c, hc⟩ := Option.isSome_iff_exists.1 hb
    simp [callFunc, f1, f2, hc]
  · exact kn f' g' hg'
/-- What the machine says of a call is so. -/
theorem call_ok (ok : TabOK P T) {O : Known} (kn : KnownOK P T O) {L n : Nat} {f : FuncId} {xs : List AVal} {σ : Heap} {v : AVal} {σ' : Heap}
    (h : callC (R := AVal × Heap) T O L n f xs σ (fun v σ => some (v, σ)) = some (v, σ')) : CallOK P T f xs σ v σ' := by
  obtain ⟨_, v1, σ1, h1, h2⟩ := callC_sound ok kn L n f xs σ _ _ h
  injection h1 with h1
  injection h1 with h1 h3
  subst h1; subst h3
  exact h2
end
end Go.Abs
