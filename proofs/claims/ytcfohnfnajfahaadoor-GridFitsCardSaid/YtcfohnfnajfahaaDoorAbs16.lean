/-
Regions in the order of their text.
-/
import Derived.Test.YtcfohnfnajfahaaDoorAbs15
import Derived.Orders
namespace Go.Abs
open Go

/-- The frame's values, on both sides. -/
structure ARel (ρ : Mp) (lm : Lp) (e : Env) (a : Act) : Prop where
  size : a.tmps.size = e.length
  val : ∀ t v, a.tmps[t]? = some v → VRel ρ lm (e.getD t .undef) v
  defers : a.defers = []

structure SRel (T : Tab) (ρ : Mp) (lm : Lp) (e : Env) (l : Locs) (σ : Heap) (a : Act) (w : World) : Prop where
  act : ARel ρ lm e a
  heap : HRel ρ σ w
  loc : LRel ρ lm l σ w
  glob : GRel T ρ

theorem ofConst_rel (ρ : Mp) (lm : Lp) (v : Value) : VRel ρ lm (ofConst v) v := by
  unfold ofConst
  split <;> simp [VRel]

theorem ev_rel {T : Tab} {ρ : Mp} {lm : Lp} {e : Env} {a : Act} (h : ARel ρ lm e a) (hg : GRel T ρ) (x : Operand) : VRel ρ lm (ev T e x) (a.eval x) := by
  cases x with
  | tmp t =>
    simp only [ev, Act.eval]
    cases ht : a.tmps[t]? with
    | some v => simpa [Array.getD_eq_getD_getElem?, ht] using h.val t v ht
    | none =>
      have : e.length ≤ t := by
        have := Array.getElem?_eq_none_iff.1 ht
        have := h.size
        omega
      have : e.getD t .undef = .undef := by simp [List.getD, List.getElem?_eq_none this]
      rw [this]
      simp [VRel]
  | const v => exact ofConst_rel ρ lm v
  | global g =>
    simp only [ev, Act.eval]
    split
    · rename_i hgl
      obtain ⟨n, hn⟩ := hg g hgl
      simp only [VRel]
      exact ⟨_, hn, by simp⟩
    · simp [VRel]
  | func f =>
    simp only [ev, Act.eval, VRel, VRels]
    exact ⟨[], rfl, rfl⟩

theorem put_getD (e : Env) (dst : Option Nat) (v : AVal) (t : Nat) : (put e dst v).getD t .undef = if dst = some t ∧ t < e.length then v else e.getD t .undef := by
  cases dst with
  | none => simp [put]
  | some d =>
    simp only [put, List.getD]
    by_cases h : d = t
    · subst h
      by_cases hl : d < e.length
      · simp [hl]
      · simp [hl]
    · simp [h]
theorem put_length (e : Env) (dst : Option Nat) (v : AVal) : (put e dst v).length = e.length := by
  cases dst <;> simp [put]
theorem actput_get (a : Act) (dst : Option Nat) (v : Value) (t : Nat) : (a.put dst v).tmps[t]? = if dst = some t ∧ t < a.tmps.size then some v else a.tmps[t]? := by
  cases dst with
  | none => simp [Act.put]
  | some d =>
    simp only [Act.put]
    by_cases h : d = t
    · subst h
      by_cases hl : d < a.tmps.size
      · simp [hl]
      · simp [hl]
    · simp [h]
theorem actput_size (a : Act) (dst : Option Nat) (v : Value) : (a.put dst v).tmps.size = a.tmps.size := by
  cases dst <;> simp [Act.put]
theorem actput_defers (a : Act) (dst : Option Nat) (v : Value) : (a.put dst v).defers = a.defers := by
  cases dst <;> simp [Act.put]

theorem ARel.put {ρ ρ' : Mp} {lm lm' : Lp} {e : Env} {a : Act} (h : ARel ρ lm e a) (hr : ∀ b pl, ρ b = some pl → ρ' b = some pl) (hl : ∀ t k, lm t = some k → lm' t = some k) (dst : Option Nat) {v : AVal} {cv : Value} (hv : VRel ρ' lm' v cv) :
    ARel ρ' lm' (put e dst v) (a.put dst cv) where
  size := by rw [actput_size, put_length]; exact h.size
  val := fun t u hu => by
    rw [actput_get] at hu
    rw [put_getD, ← h.size]
    by_cases hc : dst = some t ∧ t < a.tmps.size
    · rw [if_pos hc] at hu ⊢
      injection hu with hu
      subst hu
      exact hv
    · rw [if_neg hc] at hu ⊢
      exact (h.val t u hu).mono hr hl
  defers := by rw [actput_defers]; exact h.defers

/-! ### What a region's operations do, one by one -/
section
variable (P : Program) (T : Tab)

def StepRel (q : Bool) (o : Oper) (e : Env) (l : Locs) (σ : Heap) (v : AVal) (l' : Locs) (σ' : Heap) : Prop :=
  match q with
  | false => OpSound P T o e l σ v l' σ'
  | true => ∃ l1 σ1, OpSound P T o e l.frz σ.frz v l1 σ1 ∧ l' = l.back l1 ∧ σ' = σ.back σ1

def Wanted (ops : Array Oper) (o : Oper) (e : Env) : Bool → Prop
  | true => o.guard = none ∨ ∃ g want d, o.guard = some (g, want) ∧ (ops[g]?).bind (·.dst) = some d ∧ e.getD d .undef = .bool want
  | false => ∃ g want, o.guard = some (g, want) ∧ ((ops[g]?).bind (·.dst) = none ∨ ∃ d, (ops[g]?).bind (·.dst) = some d ∧ (e.getD d .undef = .void ∨ e.getD d .undef = .bool (!want)))

def OneStep (ops : Array Oper) (q : Bool) (o : Oper) (e : Env) (l : Locs) (σ : Heap) (v : AVal) (l' : Locs) (σ' : Heap) : Prop :=
  (Wanted ops o e true ∧ StepRel P T q o e l σ v l' σ') ∨ (Wanted ops o e false ∧ v = .void ∧ l' = l ∧ σ' = σ)

def Trace (ops : Array Oper) : List Oper → List Bool → Env → Locs → Heap → Env → Locs → Heap → Prop
  | [], _, e, l, σ, e', l', σ' => e' = e ∧ l' = l ∧ σ' = σ
  | o :: os, qs, e, l, σ, e', l', σ' => ∃ v l1 σ1, OneStep P T ops (qs.headD false) o e l σ v l1 σ1 ∧ Trace ops os qs.tail (put e o.dst v) l1 σ1 e' l' σ'
end

section
variable {P : Program} {T : Tab} {R : Type}

theorem Heap.back_frz (σ : Heap) : σ.back σ.frz = σ := by
  simp [Heap.back, Heap.frz]
theorem Locs.back_frz : ∀ (l : Locs), l.back l.frz = l
  | [] => rfl
  | x :: xs => by
    have := Locs.back_frz xs
    simp only [Locs.frz] at this
    simp only [Locs.frz, List.map_cons, Locs.back, this]
    cases x <;> rfl
theorem Heap.row?_frz (σ : Heap) (b : Nat) : σ.frz.row? b = σ.row? b := by
  unfold Heap.row? Heap.frz
  rw [List.getElem?_map]
  cases h : σ[b]? with
  | none => rfl
  | some x =>
    cases x with
    | row cs m => cases m <;> rfl
    | map es => rfl
theorem Heap.cell?_frz (σ : Heap) (b o : Nat) : σ.frz.cell? b o = σ.cell? b o := by
  unfold Heap.cell?
  rw [Heap.row?_frz]
theorem Heap.read_frz (σ : Heap) (b : Option Nat) (o n z : Nat) : σ.frz.read b o n z = σ.read b o n z := by
  unfold Heap.read
  cases b with
  | none => rfl
  | some b => simp only [Heap.row?_frz]
theorem Locs.cells?_frz (l : Locs) (s : Nat) : (l.frz[s]?).bind LBlk.cells? = (l[s]?).bind LBlk.cells? := by
  unfold Locs.frz
  rw [List.getElem?_map]
  cases h : l[s]? with
  | none => rfl
  | some x => cases x <;> rfl
theorem still_builtin {T : Tab} {R : Type} (b : Builtin) (hb : (match b with | .len => true | .max => true | .min => true | _ => false) = true) {ts : List TypeId} {vs : List AVal} {l : Locs} {σ : Heap} {k : AVal → Locs → Heap → Option R} :
    builtinC T b ts vs l.frz σ.frz (fun v l' σ' => k v (l.back l') (σ.back σ')) = builtinC T b ts vs l σ k := by
  unfold builtinC
  split
  · simp only [Locs.back_frz, Heap.back_frz]
  · cases hb
  · cases hb
  · simp only [Locs.back_frz, Heap.back_frz]
  · simp only [Locs.back_frz, Heap.back_frz]
  · rfl
theorem still_opC {T : Tab} {R : Type} {f : FuncId} {dst : Option Nat} {ty : TypeId} {op : Op} (h : still T op = true) (e : Env) (l : Locs) (σ : Heap) (k : AVal → Locs → Heap → Option R) :
    opC T f dst ty op e l.frz σ.frz (fun v l' σ' => k v (l.back l') (σ.back σ')) = opC T f dst ty op e l σ k := by
  cases op
  all_goals try (exact Bool.noConfusion h)
  case convert s d x =>
    simp only [still] at h
    simp only [opC]
    split at h
    · rename_i di hd
      rw [hd]
      simp only [Option.bind_some]
      cases T.ti s with
      | none => rfl
      | some si =>
        simp only [Option.bind_some, convC]
        split at h
        · rename_i kd hs
          rw [hs]
          split <;> simp_all [Locs.back_frz, Heap.back_frz]
        · rename_i hs
          rw [hs]
          split <;> simp_all [Locs.back_frz, Heap.back_frz, Heap.read_frz]
        · cases h
    · cases h
  case call c =>
    simp only [still] at h
    simp only [opC]
    split at h
    · rename_i hc
      rw [hc]
      generalize c.argTypes.toList = ts
      generalize c.args.toList.map (ev T e) = vs
      exact still_builtin _ rfl
    · rename_i hc
      rw [hc]
      generalize c.argTypes.toList = ts
      generalize c.args.toList.map (ev T e) = vs
      exact still_builtin _ rfl
    · rename_i hc
      rw [hc]
      generalize c.argTypes.toList = ts
      generalize c.args.toList.map (ev T e) = vs
      exact still_builtin _ rfl
    · cases h
  all_goals simp only [opC, Locs.back_frz, Heap.back_frz, Heap.cell?_frz, Locs.cells?_frz]
theorem still_stepC {T : Tab} {R : Type} {f : FuncId} {callF : CallF R} {o : Oper} (h : still T o.op = true) (e : Env) (l : Locs) (σ : Heap) (k : AVal → Locs → Heap → Option R) :
    stepC T f callF o e l.frz σ.frz (fun v l' σ' => k v (l.back l') (σ.back σ')) = stepC T f callF o e l σ k := by
  unfold stepC
  split
  · rename_i hop
    rw [hop] at h
    cases h
  · exact still_opC h e l σ k

theorem runC_sound (ok : TabOK P T) {f : FuncId} {callF : CallF R} (hc : CallFOK P T callF) {q : Bool} {o : Oper} {e : Env} {l : Locs} {σ : Heap} {k : AVal → Locs → Heap → Option R} {r : R}
    (h : runC T f callF q o e l σ k = some r) : ∃ v l' σ', k v l' σ' = some r ∧ StepRel P T q o e l σ v l' σ' := by
  cases q with
  | false => exact stepC_sound ok hc h
  | true =>
    have h0 : stepC T f callF o e l.frz σ.frz (fun v l' σ' => k v (l.back l') (σ.back σ')) = some r := by
      unfold runC at h
      cases hst : still T o.op with
      | true => rw [still_stepC hst]; simpa only [hst] using h
      | false => simpa only [hst] using h
    obtain ⟨v, l', σ', h1, h2⟩ := stepC_sound ok hc h0
    exact ⟨v, _, _, h1, l', σ', h2, rfl, rfl⟩

theorem set_same {e : Env} {d : Nat} {v : AVal} (h : e.getD d .undef = v) (hv : v ≠ .undef) : e.set d v = e := by
  have hl : d < e.length := by
    rcases Nat.lt_or_ge d e.length with h' | h'
    · exact h'
    · rw [List.getD, List.getElem?_eq_none h'] at h
      exact absurd h.symm hv
  rw [List.getD, List.getElem?_eq_getElem hl] at h
  simp only [Option.getD_some] at h
  rw [← h]
  exact List.set_getElem_self hl

theorem opsC_trace (ok : TabOK P T) {f : FuncId} {callF : CallF R} (hc : CallFOK P T callF) {all : Array Oper} {r : R} : ∀ {os : List Oper} {qs : List Bool} {e : Env} {l : Locs} {σ : Heap} {k : Env → Locs → Heap → Option R},
    opsC T f callF all os qs e l σ k = some r → ∃ e' l' σ', k e' l' σ' = some r ∧ Trace P T all os qs e l σ e' l' σ'
  | [], qs, e, l, σ, k, h => ⟨e, l, σ, h, rfl, rfl, rfl⟩
  | o :: os, qs, e, l, σ, k, h => by
    have run : ∀ {e0 : Env}, Wanted all o e0 true → runC T f callF (qs.headD false) o e0 l σ (fun v l σ => opsC T f callF all os qs.tail (put e0 o.dst v) l σ k) = some r →
        ∃ e' l' σ', k e' l' σ' = some r ∧ Trace P T all (o :: os) qs e0 l σ e' l' σ' := fun {e0} hw h => by
      obtain ⟨v, l1, σ1, h1, h2⟩ := runC_sound ok hc h
      obtain ⟨e', l', σ', h3, h4⟩ := opsC_trace ok hc h1
      exact ⟨e', l', σ', h3, v, l1, σ1, .inl ⟨hw, h2⟩, h4⟩
    have skip : ∀ {e0 : Env}, Wanted all o e0 false → opsC T f callF all os qs.tail (put e0 o.dst .void) l σ k = some r →
        ∃ e' l' σ', k e' l' σ' = some r ∧ Trace P T all (o :: os) qs e0 l σ e' l' σ' := fun {e0} hw h => by
      obtain ⟨e', l', σ', h3, h4⟩ := opsC_trace ok hc h
      exact ⟨e', l', σ', h3, .void, l, σ, .inr ⟨hw, rfl, rfl, rfl⟩, h4⟩
    simp only [opsC] at h
    split at h
    · rename_i hg
      exact run (.inl hg) h
    · rename_i g want hg
      split at h
      · rename_i hd
        exact skip ⟨g, want, hg, .inl hd⟩ h
      · rename_i d hd
        split at h
        · rename_i b hb
          have hset : e.set d (.bool b) = e := set_same hb (by simp)
          cases want <;> cases b <;> simp only [cond_true, cond_false, hset] at h
          · exact run (.inr ⟨g, false, d, hg, hd, hb⟩) h
          · exact skip ⟨g, false, hg, .inr ⟨d, hd, .inr hb⟩⟩ h
          · exact skip ⟨g, true, hg, .inr ⟨d, hd, .inr hb⟩⟩ h
          · exact run (.inr ⟨g, true, d, hg, hd, hb⟩) h
        · rename_i hb
          exact skip ⟨g, want, hg, .inr ⟨d, hd, .inl hb⟩⟩ h
        · cases h

/-! ### The order of the text -/
/-- What is known of a value's place: is it the guard's? -/
def GuardVal (ops : Array Oper) (o : Oper) (e : Env) (a : Act) (P' : AVal → Value → Prop) : Prop :=
  ∀ g want d, o.guard = some (g, want) → (ops[g]?).bind (·.dst) = some d → e.getD d .undef ≠ .undef → ∃ v, a.tmps[d]? = some v ∧ P' (e.getD d .undef) v

theorem wanted_true {ops : Array Oper} {o : Oper} {e : Env} {a : Act} (h : Wanted ops o e true)
    (hv : ∀ g want d, o.guard = some (g, want) → (ops[g]?).bind (·.dst) = some d → e.getD d .undef = .bool want → a.tmps[d]? = some (.bool want)) : Region.wanted o (yielded ops a.tmps) = true := by
  rcases h with hg | ⟨g, want, d, hg, hd, he⟩
  · simp [Region.wanted, hg]
  · have := hv g want d hg hd he
    simp [Region.wanted, hg, yielded, hd, this]
theorem wanted_false {ops : Array Oper} {o : Oper} {e : Env} {a : Act} (h : Wanted ops o e false)
    (hv : ∀ g want d, o.guard = some (g, want) → (ops[g]?).bind (·.dst) = some d → ∀ x, (x = .void ∨ ∃ b, x = .bool b) → e.getD d .undef = x → ∃ v, a.tmps[d]? = some v ∧ VRel (fun _ => none) noL x v) : Region.wanted o (yielded ops a.tmps) = false := by
  obtain ⟨g, want, hg, hd | ⟨d, hd, he⟩⟩ := h
  · simp [Region.wanted, hg, yielded, hd]
  · rcases he with he | he
    · obtain ⟨v, h1, h2⟩ := hv g want d hg hd _ (.inl rfl) he
      simp only [VRel] at h2
      subst h2
      simp [Region.wanted, hg, yielded, hd, h1, Go.undef]
    · obtain ⟨v, h1, h2⟩ := hv g want d hg hd _ (.inr ⟨_, rfl⟩) he
      simp only [VRel] at h2
      subst h2
      simp [Region.wanted, hg, yielded, hd, h1]

theorem ARel.get {ρ : Mp} {lm : Lp} {e : Env} {a : Act} (h : ARel ρ lm e a) {d : Nat} (hd : e.getD d .undef ≠ .undef) : ∃ v, a.tmps[d]? = some v ∧ VRel ρ lm (e.getD d .undef) v := by
  have hl : d < a.tmps.size := by
    rw [h.size]
    rcases Nat.lt_or_ge d e.length with h' | h'
    · exact h'
    · rw [List.getD, List.getElem?_eq_none h'] at hd; exact absurd rfl hd
  exact ⟨a.tmps[d], by simp [hl], h.val d _ (by simp [hl])⟩

theorem wpOps_seq {ops : Array Oper} {Q : Exit → Act → World → Prop} : ∀ (os : List Oper) (i : Nat) (_ : os = ops.toList.drop i) {e : Env} {l : Locs} {σ : Heap} {e' : Env} {l' : Locs} {σ' : Heap} {ρ : Mp} {lm : Lp} {a : Act} {w : World},
    Trace P T ops os [] e l σ e' l' σ' → SRel T ρ lm e l σ a w →
    (∀ ρ' lm' a' w', SRel T ρ' lm' e' l' σ' a' w' → Step ρ lm l σ w ρ' lm' l' σ' w' → Q .normal a' w') → wpOps P ops Q (List.range' i os.length) a w
  | [], i, hos, e, l, σ, e', l', σ', ρ, lm, a, w, ht, hs, hq => by
    obtain ⟨rfl, rfl, rfl⟩ := ht
    exact hq ρ lm a w hs (Step.refl ..)
  | o :: os, i, hos, e, l, σ, e', l', σ', ρ, lm, a, w, ht, hs, hq => by
    obtain ⟨v, l1, σ1, h1, h2⟩ := ht
    have hi : ops[i]? = some o := by
      have := congrArg (fun q : List Oper => q[0]?) hos
      simp only [List.getElem?_cons_zero, List.getElem?_drop, Nat.add_zero, Array.getElem?_toList] at this
      exact this.symm
    have hos' : os = ops.toList.drop (i + 1) := by
      have := congrArg List.tail hos
      simpa [List.tail_drop] using this
    simp only [List.length_cons, List.range'_succ, wpOps, hi]
    simp only [List.headD_nil] at h1
    rcases h1 with ⟨hw, h1⟩ | ⟨hw, rfl, rfl, rfl⟩
    · rw [if_pos (wanted_true hw fun g want d hg hd he => by
        obtain ⟨u, e1, r1⟩ := hs.act.get (d := d) (by rw [he]; simp)
        rw [he] at r1
        simp only [VRel] at r1
        rw [e1, r1])]
      refine .inl (h1 ρ lm a w hs.heap hs.loc hs.glob (fun x _ => ev_rel hs.act hs.glob x) _ _ fun cv w' ρ' lm' q1 q2 q3 q4 q5 => ?_)
      exact wpOps_seq os (i + 1) hos' h2 ⟨hs.act.put q4.ext q5.1 _ q3, q1, q2, fun g hg => let ⟨n, hn⟩ := hs.glob g hg; ⟨n, q4.ext _ _ hn⟩⟩
        fun ρ'' lm'' a'' w'' s1 s2 => hq ρ'' lm'' a'' w'' s1 (q4.trans s2)
    · rw [if_neg (by
        rw [wanted_false hw fun g want d hg hd x hx he => ?_]
        · simp
        · obtain ⟨u, e1, r1⟩ := hs.act.get (d := d) (by rw [he]; rcases hx with rfl | ⟨b, rfl⟩ <;> simp)
          refine ⟨u, e1, ?_⟩
          rw [he] at r1
          rcases hx with rfl | ⟨b, rfl⟩ <;> simpa [VRel] using r1)]
      exact wpOps_seq os (i + 1) hos' h2 ⟨hs.act.put (fun _ _ h => h) (fun _ _ h => h) _ (by simp [VRel]), hs.heap, hs.loc, hs.glob⟩ hq

theorem region_seq {id : Nat} {ops : Array Oper} {Q : Exit → Act → World → Prop} {e : Env} {l : Locs} {σ : Heap} {e' : Env} {l' : Locs} {σ' : Heap} {ρ : Mp} {lm : Lp} {a : Act} {w : World}
    (ht : Trace P T ops ops.toList [] e l σ e' l' σ') (hs : SRel T ρ lm e l σ a w)
    (hq : ∀ ρ' lm' a' w', SRel T ρ' lm' e' l' σ' a' w' → Step ρ lm l σ w ρ' lm' l' σ' w' → Q .normal a' w') : (Code.region id ops false).wp P Q a w := by
  refine wp_region ?_
  have := wpOps_seq (Q := Q) ops.toList 0 (by simp) ht hs hq
  simpa [List.range_eq_range'] using this
end
end Go.Abs
