/-
The code of a function; its calls.
-/
import Derived.Test.YtcfohnfnajfahaaDoorAbs19
namespace Go.Abs
open Go

/-! ### The static check -/
section
variable {ops : Array Oper} {q : Nat → Bool}

theorem maskOf_spec {i : Nat} {ancs : List Nat} {m : Nat} : ∀ {es : List Edge} {acc : Nat}, (maskOf i ancs es acc).testBit m = true → acc.testBit m = true ∨ ∃ e ∈ es, Region.binds .any e = true ∧ (e.on = m ∨ (ancs.getD (i - 1 - e.on) 0).testBit m = true)
  | [], acc, h => .inl h
  | e :: es, acc, h => by
    unfold maskOf at h
    split at h
    · rename_i hb
      rcases maskOf_spec h with h | ⟨e', h1, h2⟩
      · rw [Nat.testBit_or, Nat.testBit_or, Bool.or_eq_true, Bool.or_eq_true] at h
        rcases h with (h | h) | h
        · exact .inl h
        · refine .inr ⟨e, List.mem_cons_self, hb, .inl ?_⟩
          rw [Nat.one_shiftLeft, Nat.testBit_two_pow] at h
          simpa using h
        · exact .inr ⟨e, List.mem_cons_self, hb, .inr h⟩
      · exact .inr ⟨e', List.mem_cons_of_mem _ h1, h2⟩
    · rcases maskOf_spec h with h | ⟨e', h1, h2⟩
      · exact .inl h
      · exact .inr ⟨e', List.mem_cons_of_mem _ h1, h2⟩

theorem goodGo_spec {h : Nat} : ∀ (os : List Oper) (i : Nat) (bar : Option Nat) (seg : List (Nat × Oper)) (ancs : List Nat) (qs : List Bool), h ≤ i → os = ops.toList.drop i → (∀ j, qs.getD j false = q (i + j)) → goodGo ops h i bar seg ancs qs os = true →
    (∀ b, bar = some b → h ≤ b ∧ b < i ∧ q b = false ∧ ∀ m, b < m → m < i → q m = true) → (bar = none → ∀ m, h ≤ m → m < i → q m = true) →
    (∀ (k : Nat) (ok : Oper), h ≤ k → k < i → (∀ m, k ≤ m → m < i → q m = true) → ops[k]? = some ok → (k, ok) ∈ seg) →
    (∀ (k m : Nat), k < i → (ancs.getD (i - 1 - k) 0).testBit m = true → Anc ops m k) →
    ∀ (j : Nat) (o : Oper), i ≤ j → ops[j]? = some o →
      (∀ e ∈ o.after, Region.binds .any e = true → e.on < j) ∧
      (∀ b, h ≤ b → b < j → q b = false → (∀ m, b < m → m < j → q m = true) → Anc ops b j) ∧
      (q j = false → ∀ m, h ≤ m → m < j → Anc ops m j) ∧
      (∀ (k : Nat) (ok : Oper), ops[k]? = some ok → h ≤ k → k < j → (∀ m, k ≤ m → m ≤ j → q m = true) → (Anc ops k j ∨ ok.apart ops o = true) ∧ (∀ d, ok.dst = some d → o.dst ≠ some d))
  | [], i, bar, seg, ancs, qs, hhi, hos, hqs, hg, hb, hn, hs, ha, j, o, hj, ho => by
    have h1 := (Array.getElem?_eq_some_iff.1 ho).1
    have : ops.toList.length ≤ i := List.drop_eq_nil_iff.1 hos.symm
    simp at this
    omega
  | o0 :: os, i, bar, seg, ancs, qs, hhi, hos, hqs, hg, hb, hn, hs, ha, j, o, hj, ho => by
    have hi : ops[i]? = some o0 := by
      have := congrArg (fun q : List Oper => q[0]?) hos
      simp only [List.getElem?_cons_zero, List.getElem?_drop, Nat.add_zero, Array.getElem?_toList] at this
      exact this.symm
    have hos' : os = ops.toList.drop (i + 1) := by
      have := congrArg List.tail hos
      simpa [List.tail_drop] using this
    have hqi : qs.headD false = q i := by
      rw [← Nat.add_zero i, ← hqs 0]
      cases qs <;> rfl
    have hqs' : ∀ j, qs.tail.getD j false = q (i + 1 + j) := fun j => by
      rw [Nat.add_assoc, Nat.add_comm 1 j, ← hqs (j + 1)]
      cases qs <;> simp [List.getD]
    simp only [goodGo, Bool.and_eq_true] at hg
    obtain ⟨⟨hac, hbar⟩, hg⟩ := hg
    rw [hqi] at hg
    have hac' : ∀ e ∈ o0.after, Region.binds .any e = true → e.on < i := fun e he hbn => by
      have := List.all_eq_true.1 hac e (by simpa using he)
      simpa [hbn] using this
    have hmask : ∀ m, (maskOf i ancs o0.after.toList 0).testBit m = true → Anc ops m i := fun m hm => by
      rcases maskOf_spec hm with h | ⟨e, he, hbn, h⟩
      · simp at h
      · have hedge : ∀ m, e.on = m → hasEdge o0 m = true := fun m hem => List.any_eq_true.2 ⟨e, he, by simp [hbn, hem]⟩
        rcases h with h | h
        · exact .edge hi (hedge m h)
        · exact .more (ha e.on m (hac' e (by simpa using he) hbn) h) hi (hedge e.on rfl)
    have ha' : ∀ (k m : Nat), k < i + 1 → ((maskOf i ancs o0.after.toList 0 :: ancs).getD (i + 1 - 1 - k) 0).testBit m = true → Anc ops m k := fun k m hk hm => by
      by_cases e : k = i
      · subst e
        have e0 : k + 1 - 1 - k = 0 := by omega
        rw [e0] at hm
        exact hmask m (by simpa [List.getD] using hm)
      · have e0 : i + 1 - 1 - k = (i - 1 - k) + 1 := by omega
        rw [e0] at hm
        exact ha k m (by omega) (by simpa [List.getD] using hm)
    cases hq : q i with
    | true =>
      rw [hq] at hg
      simp only [Bool.and_eq_true] at hg
      obtain ⟨hseg, hg⟩ := hg
      rcases Nat.lt_or_ge i j with hij | hij
      · refine goodGo_spec os (i + 1) bar ((i, o0) :: seg) _ qs.tail (by omega) hos' hqs' hg (fun b e => ?_) (fun e m hm1 hm => ?_) (fun k ok hhk hk hall hok => ?_) ha' j o hij ho
        · obtain ⟨h0, h1, h2, h3⟩ := hb b e
          refine ⟨h0, by omega, h2, fun m m1 m2 => ?_⟩
          by_cases em : m = i
          · rw [em]; exact hq
          · exact h3 m m1 (by omega)
        · by_cases em : m = i
          · rw [em]; exact hq
          · exact hn e m hm1 (by omega)
        · by_cases ek : k = i
          · subst ek
            rw [hi] at hok
            injection hok with hok
            subst hok
            exact List.mem_cons_self
          · exact List.mem_cons_of_mem _ (hs k ok hhk (by omega) (fun m m1 m2 => hall m m1 (by omega)) hok)
      · obtain rfl : j = i := by omega
        rw [hi] at ho
        injection ho with ho
        subst ho
        refine ⟨hac', fun b hb0 hb1 hb2 hb3 => ?_, fun h' => (by rw [hq] at h'; cases h'), fun k ok hok hhk hk hall => ?_⟩
        · cases hbv : bar with
          | none => have := hn hbv b hb0 hb1; rw [hb2] at this; cases this
          | some b' =>
            rw [hbv] at hbar
            obtain ⟨_, g1, g2, g3⟩ := hb b' hbv
            rcases Nat.lt_trichotomy b b' with h1 | h1 | h1
            · have := hb3 b' h1 g1; rw [g2] at this; cases this
            · rw [h1]; exact hmask b' hbar
            · have := g3 b h1 hb1; rw [hb2] at this; cases this
        · have := List.all_eq_true.1 hseg (k, ok) (hs k ok hhk hk (fun m m1 m2 => hall m m1 (by omega)) hok)
          simp only [Bool.and_eq_true, Bool.or_eq_true] at this
          refine ⟨this.1.imp (hmask k) id, fun d hd hd' => ?_⟩
          have h2 := this.2
          rw [hd, hd'] at h2
          simp [apartDst] at h2
    | false =>
      rw [hq] at hg
      simp only [Bool.and_eq_true] at hg
      obtain ⟨hseg, hg⟩ := hg
      have hseg' : ∀ m, h ≤ m → m < i → Anc ops m i := fun m m1 m2 => by
        have := List.all_eq_true.1 hseg m (List.mem_range.2 m2)
        simp only [Bool.or_eq_true, decide_eq_true_eq] at this
        exact hmask m (this.resolve_left (by omega))
      rcases Nat.lt_or_ge i j with hij | hij
      · refine goodGo_spec os (i + 1) (some i) [] _ qs.tail (by omega) hos' hqs' hg (fun b e => ?_) (fun e m hm => by cases e) (fun k ok hhk hk hall hok => ?_) ha' j o hij ho
        · injection e with e
          subst e
          exact ⟨hhi, by omega, hq, fun m m1 m2 => by omega⟩
        · have := hall i (by omega) (by omega)
          rw [hq] at this
          cases this
      · obtain rfl : j = i := by omega
        rw [hi] at ho
        injection ho with ho
        subst ho
        refine ⟨hac', fun b hb0 hb1 hb2 hb3 => hseg' b hb0 hb1, fun _ m => hseg' m, fun k ok hok hhk hk hall => ?_⟩
        have := hall j (by omega) (Nat.le_refl _)
        rw [hq] at this
        cases this

theorem leadN_le : ∀ (qs : List Bool) (os : List Oper), leadN qs os ≤ os.length
  | qs, [] => by cases qs <;> simp [leadN]
  | qs, o :: os => by
    unfold leadN
    split
    · have := leadN_le qs.tail os; simp; omega
    · simp

theorem leadN_spec : ∀ (qs : List Bool) (os : List Oper) (i : Nat) (o : Oper), i < leadN qs os → os[i]? = some o → isLead (qs.getD i false) o = true
  | qs, [], i, o, hi, ho => by simp at ho
  | qs, o0 :: os, i, o, hi, ho => by
    unfold leadN at hi
    split at hi
    · rename_i hl
      cases i with
      | zero =>
        simp only [List.getElem?_cons_zero, Option.some.injEq] at ho
        subst ho
        have : qs.getD 0 false = qs.headD false := by cases qs <;> rfl
        rw [this]; exact hl
      | succ i =>
        have e1 : qs.getD (i + 1) false = qs.tail.getD i false := by cases qs <;> simp [List.getD]
        rw [e1]
        exact leadN_spec qs.tail os i o (by omega) (by simpa using ho)
    · omega

theorem leadOk_spec : ∀ (h i : Nat) (os : List Oper), leadOk ops h i os = true → ∀ (j : Nat) (o : Oper), j < h → os[j]? = some o →
    (∀ e ∈ o.after, Region.binds .any e = true → e.on < i + j) ∧ ∀ (k : Nat) (ok : Oper), j < k → os[k]? = some ok → hasEdge ok (i + j) = true ∨ o.apart ops ok = true
  | 0, i, os, _, j, o, hj, _ => by omega
  | h + 1, i, [], _, j, o, _, ho => by simp at ho
  | h + 1, i, o0 :: os, hg, j, o, hj, ho => by
    simp only [leadOk, Bool.and_eq_true] at hg
    obtain ⟨⟨h1, h2⟩, h3⟩ := hg
    cases j with
    | zero =>
      simp only [List.getElem?_cons_zero, Option.some.injEq] at ho
      subst ho
      refine ⟨fun e he hb => ?_, fun k ok hk hok => ?_⟩
      · have := List.all_eq_true.1 h1 e (by simpa using he)
        simpa [hb] using this
      · cases k with
        | zero => omega
        | succ k =>
          have := List.all_eq_true.1 h2 ok (List.mem_of_getElem? (by simpa using hok))
          simpa using this
    | succ j =>
      obtain ⟨g1, g2⟩ := leadOk_spec h (i + 1) os h3 j o (by omega) (by simpa using ho)
      refine ⟨fun e he hb => by have := g1 e he hb; omega, fun k ok hk hok => ?_⟩
      cases k with
      | zero => omega
      | succ k =>
        have := g2 k ok (by omega) (by simpa using hok)
        rwa [show i + 1 + j = i + (j + 1) by omega] at this

theorem good_of_reg {qs : List Bool} (hg : goodReg ops qs = true) : ∃ h, Lead ops (fun j => qs.getD j false) h ∧ Good ops h (fun j => qs.getD j false) := by
  unfold goodReg at hg
  simp only [Bool.and_eq_true] at hg
  obtain ⟨⟨h1, h2⟩, h3⟩ := hg
  refine ⟨leadN qs ops.toList, ⟨by simpa using leadN_le qs ops.toList, h1, fun i o hi ho => ?_⟩, ?_⟩
  · have hl := leadN_spec qs ops.toList i o hi (by simpa using ho)
    obtain ⟨g1, g2⟩ := leadOk_spec _ 0 _ h2 i o hi (by simpa using ho)
    simp only [isLead, Bool.and_eq_true, Bool.not_eq_true', Option.isNone_iff_eq_none] at hl
    obtain ⟨⟨l1, l2⟩, l3⟩ := hl
    refine ⟨l1, l2, ?_, by simpa using g1, fun j oj hij hoj => by simpa using g2 j oj hij (by simpa using hoj)⟩
    split at l3
    · rename_i x hx; exact ⟨x, hx⟩
    · cases l3
  · have key := goodGo_spec (q := fun j => qs.getD j false) (h := leadN qs ops.toList) (ops.toList.drop (leadN qs ops.toList)) (leadN qs ops.toList) none [] (List.replicate (leadN qs ops.toList) 0) (qs.drop (leadN qs ops.toList)) (Nat.le_refl _) rfl
      (fun j => by simp [List.getD]) h3 (fun b e => by cases e) (fun _ m hm1 hm => by omega) (fun k ok hhk hk => by omega) (fun k m hk hm => by
        rw [List.getD, List.getElem?_replicate] at hm
        split at hm <;> simp at hm)
    exact ⟨fun i o hi ho => (key i o hi ho).1, fun b i o ho hh hb hq hm => (key i o (by omega) ho).2.1 b hh hb hq hm, fun b m o ho hh hq hm => (key b o (by omega) ho).2.2.1 hq m hh hm,
      fun k i ok oi hok hoi hh hk hm => (key i oi (by omega) hoi).2.2.2 k ok hok hh hk hm⟩
end

/-! ### Code -/
def Ex.toExit : Ex → Exit
  | .normal => .normal
  | .exit id => .exit id
  | .ret => .ret

section
variable {P : Program} {T : Tab} {R : Type}

def CodeOK (P : Program) (T : Tab) (c : Code) (e : Env) (l : Locs) (σ : Heap) (x : Ex) (e' : Env) (l' : Locs) (σ' : Heap) : Prop :=
  ∀ (ρ : Mp) (lm : Lp) (a : Act) (w : World), SRel T ρ lm e l σ a w →
    c.wp P (fun ex a' w' => ex = x.toExit ∧ ∃ ρ' lm', SRel T ρ' lm' e' l' σ' a' w' ∧ Step ρ lm l σ w ρ' lm' l' σ' w') a w

theorem exists_least {p : Nat → Prop} : ∀ k, p k → ∃ m, p m ∧ ∀ j, p j → m ≤ j := fun k => by
  induction k using Nat.strongRecOn with
  | _ k ih =>
    intro hk
    by_cases h : ∃ j, j < k ∧ p j
    · obtain ⟨j, h1, h2⟩ := h
      exact ih j h1 h2
    · exact ⟨k, hk, fun j hj => Nat.le_of_not_lt fun hlt => h ⟨j, hlt, hj⟩⟩

theorem wp_loop_n {c : Code} {Q : Exit → Act → World → Prop} {a : Act} {w : World} (I : Nat → Act → World → Prop) {n : Nat} (h0 : I n a w)
    (round : ∀ k a w, I k a w → c.wp P (Exit.then (fun a' w' => ∃ j, j < k ∧ I j a' w') Q) a w) : (Code.loop c).wp P Q a w := by
  classical
  let μ : Act → World → Nat := fun a w => if h : ∃ m, I m a w ∧ ∀ j, I j a w → m ≤ j then h.choose else 0
  have hμ : ∀ a w k, I k a w → I (μ a w) a w ∧ μ a w ≤ k := fun a w k hk => by
    have h := exists_least (p := fun m => I m a w) k hk
    have e : μ a w = h.choose := dif_pos h
    rw [e]
    exact ⟨h.choose_spec.1, h.choose_spec.2 k hk⟩
  refine wp_loop (fun a w => ∃ k, I k a w) μ ⟨n, h0⟩ fun a w hI => ?_
  obtain ⟨k, hk⟩ := hI
  refine wp_mono (round (μ a w) a w (hμ a w k hk).1) fun e a' w' h => ?_
  cases e with
  | normal =>
    obtain ⟨j, h1, h2⟩ := h
    exact ⟨⟨j, h2⟩, by have := (hμ a' w' j h2).2; omega⟩
  | _ => exact h

theorem maskE_getD : ∀ (m : List Nat) (e : Env) (t : Nat), (maskE m e).getD t .undef = e.getD t .undef ∨ (maskE m e).getD t .undef = .undef
  | [], e, t => .inl rfl
  | s :: m, e, t => by
    simp only [maskE]
    rcases maskE_getD m (e.set s .undef) t with h | h
    · rw [h]
      by_cases hs : s = t
      · subst hs
        by_cases hl : s < e.length
        · right; simp [List.getD, hl]
        · right; rw [List.getD, List.getElem?_eq_none (by rw [List.length_set]; omega)]; rfl
      · left; simp [List.getD, hs]
    · exact .inr h
theorem maskE_length : ∀ (m : List Nat) (e : Env), (maskE m e).length = e.length
  | [], e => rfl
  | s :: m, e => by simp only [maskE]; rw [maskE_length m]; simp

theorem ARel.mask {ρ : Mp} {lm : Lp} {e : Env} {a : Act} (h : ARel ρ lm e a) (m : List Nat) : ARel ρ lm (maskE m e) a where
  size := by rw [maskE_length]; exact h.size
  val := fun t v hv => by
    rcases maskE_getD m e t with h' | h'
    · rw [h']; exact h.val t v hv
    · rw [h']; simp [VRel]
  defers := h.defers

theorem hasTs_getD : ∀ {e : List AVal} {t : Nat}, hasTs t e = false → ∀ s, (e.getD s .undef).hasT t = false
  | [], t, _, s => by simp [List.getD, AVal.hasT]
  | x :: xs, t, h, s => by
    simp only [hasTs, Bool.or_eq_false_iff] at h
    cases s with
    | zero => simpa [List.getD] using h.1
    | succ s => simpa [List.getD] using hasTs_getD h.2 s

theorem maskL_rel {ρ : Mp} {e : Env} {σ : Heap} {a : Act} {w : World} : ∀ (m : List Nat) {lm : Lp} {l : Locs}, SRel T ρ lm e l σ a w →
    ∃ lm', SRel T ρ lm' e (maskL e m l) σ a w ∧ Step ρ lm l σ w ρ lm' (maskL e m l) σ w
  | [], lm, l, h => ⟨lm, h, Step.refl ..⟩
  | t :: m, lm, l, h => by
    simp only [maskL]
    split
    · exact maskL_rel m h
    · rename_i hT
      let lm1 : Lp := fun s => if s = t then none else lm s
      have h1 : ∀ s k, lm1 s = some k → s ≠ t ∧ lm s = some k := fun s k hk => by
        simp only [lm1] at hk
        split at hk
        · cases hk
        · rename_i hne; exact ⟨hne, hk⟩
      have hg : ∀ s, s ≠ t → (l.set t .none).getD s .none = l.getD s .none := fun s hs => by simp [List.getD, List.getElem?_set_ne (Ne.symm hs)]
      have hS : SRel T ρ lm1 e (l.set t .none) σ a w := ⟨⟨h.act.size, fun s v hv => (h.act.val s v hv).turn (fun s hs => by simp [lm1, hs]) (hasTs_getD hT s), h.act.defers⟩, h.heap,
        ⟨fun s k hk => by
          obtain ⟨g1, g2⟩ := h1 s k hk
          rw [hg s g1]
          exact h.loc.loc s k g2, fun s s' k hk hk' => h.loc.inj s s' k (h1 s k hk).2 (h1 s' k hk').2, fun s k b pl x hk => h.loc.apart s k b pl x (h1 s k hk).2⟩, h.glob⟩
      obtain ⟨lm', q1, q2⟩ := maskL_rel m hS
      refine ⟨lm', q1, Step.trans ?_ q2⟩
      exact ⟨rfl, rfl, rfl, Nat.le_refl _, Nat.le_refl _, fun _ _ h => h, fun _ h h' => absurd h h', fun _ _ _ _ => rfl, fun b pl x h hx hr => .inr ⟨b, pl, x, h, hx, hr, rfl⟩, fun _ _ h _ => h, fun _ _ h _ => h,
        fun s k hk hr => by
          obtain ⟨g1, g2⟩ := h1 s k hk
          rw [hg s g1] at hr
          exact .inr ⟨s, g2, hr⟩⟩

/-- The rounds of a loop. -/
def LoopTr (P : Program) (T : Tab) (c : Code) (m : List Nat) (x : Ex) (e' : Env) (l' : Locs) (σ' : Heap) : Nat → Env → Locs → Heap → Prop
  | 0, _, _, _ => False
  | n + 1, e, l, σ => ∃ y e1 l1 σ1, CodeOK P T c e l σ y e1 l1 σ1 ∧
      ((y = .normal ∧ LoopTr P T c m x e' l' σ' n (maskE m e1) (maskL (maskE m e1) m l1) σ1) ∨ (y ≠ .normal ∧ y = x ∧ e1 = e' ∧ l1 = l' ∧ σ1 = σ'))

theorem loop_ok {c : Code} {m : List Nat} {x : Ex} {e' : Env} {l' : Locs} {σ' : Heap} {n : Nat} {e : Env} {l : Locs} {σ : Heap} (h : LoopTr P T c m x e' l' σ' n (maskE m e) (maskL (maskE m e) m l) σ) : CodeOK P T (.loop c) e l σ x e' l' σ' := by
  intro ρ lm a w hs
  obtain ⟨lm0, k1, k2⟩ := maskL_rel m (⟨hs.act.mask m, hs.heap, hs.loc, hs.glob⟩ : SRel T ρ lm (maskE m e) l σ a w)
  refine wp_loop_n (fun k a1 w1 => ∃ e1 l1 σ1 ρ1 lm1, LoopTr P T c m x e' l' σ' k e1 l1 σ1 ∧ SRel T ρ1 lm1 e1 l1 σ1 a1 w1 ∧ Step ρ lm l σ w ρ1 lm1 l1 σ1 w1) ⟨_, _, σ, ρ, lm0, h, k1, k2⟩ ?_
  intro k a1 w1 ⟨e1, l1, σ1, ρ1, lm1, ht, hs1, hst⟩
  cases k with
  | zero => exact ht.elim
  | succ k =>
    obtain ⟨y, e2, l2, σ2, hc, hy⟩ := ht
    refine wp_mono (hc ρ1 lm1 a1 w1 hs1) fun ex a2 w2 hq => ?_
    obtain ⟨rfl, ρ2, lm2, hs2, hst2⟩ := hq
    rcases hy with ⟨rfl, hy⟩ | ⟨hne, rfl, rfl, rfl, rfl⟩
    · obtain ⟨lm2', m1, m2⟩ := maskL_rel m (⟨hs2.act.mask m, hs2.heap, hs2.loc, hs2.glob⟩ : SRel T ρ2 lm2 (maskE m e2) l2 σ2 a2 w2)
      exact ⟨k, by omega, _, _, σ2, ρ2, lm2', hy, m1, hst.trans (hst2.trans m2)⟩
    · cases y with
      | normal => exact absurd rfl hne
      | exit id => exact ⟨rfl, ρ2, lm2, hs2, hst.trans hst2⟩
      | ret => exact ⟨rfl, ρ2, lm2, hs2, hst.trans hst2⟩

theorem iterC_sound {c : Code} {m : List Nat} {body : Env → Locs → Heap → Cont R → Option R} {r : R}
    (hb : ∀ {e l σ K}, body e l σ K = some r → ∃ x e' l' σ', K x e' l' σ' = some r ∧ CodeOK P T c e l σ x e' l' σ') :
    ∀ {n : Nat} {e : Env} {l : Locs} {σ : Heap} {K : Cont R}, iterC m body n e l σ K = some r → ∃ x e' l' σ', K x e' l' σ' = some r ∧ LoopTr P T c m x e' l' σ' n e l σ
  | 0, e, l, σ, K, h => by simp [iterC] at h
  | n + 1, e, l, σ, K, h => by
    simp only [iterC] at h
    obtain ⟨y, e1, l1, σ1, h1, h2⟩ := hb h
    cases y with
    | normal =>
      obtain ⟨x, e', l', σ', h3, h4⟩ := iterC_sound hb h1
      exact ⟨x, e', l', σ', h3, _, e1, l1, σ1, h2, .inl ⟨rfl, h4⟩⟩
    | exit id => exact ⟨_, e1, l1, σ1, h1, _, e1, l1, σ1, h2, .inr ⟨by simp, rfl, rfl, rfl, rfl⟩⟩
    | ret => exact ⟨_, e1, l1, σ1, h1, _, e1, l1, σ1, h2, .inr ⟨by simp, rfl, rfl, rfl, rfl⟩⟩

theorem codeC_sound (ok : TabOK P T) {n : Nat} {f : FuncId} {callF : CallF R} (hc : CallFOK P T callF) {r : R} : ∀ (c : Code), goodCode T f c = true → ∀ {e : Env} {l : Locs} {σ : Heap} {K : Cont R},
    codeC T n f callF c e l σ K = some r → ∃ x e' l' σ', K x e' l' σ' = some r ∧ CodeOK P T c e l σ x e' l' σ' := by
  intro c
  induction c with
  | skip =>
    intro _ e l σ K h
    simp only [codeC] at h
    exact ⟨_, _, _, _, h, fun ρ lm a w hs => wp_skip ⟨rfl, ρ, lm, hs, Step.refl ..⟩⟩
  | region id ops draw =>
    intro hg e l σ K h
    simp only [codeC] at h
    obtain ⟨e', l', σ', h1, h2⟩ := opsC_trace ok hc h
    refine ⟨_, _, _, _, h1, fun ρ lm a w hs => ?_⟩
    cases draw with
    | false => exact region_seq h2 hs fun ρ' lm' a' w' s1 s2 => ⟨rfl, ρ', lm', s1, s2⟩
    | true =>
      obtain ⟨h, ld, good⟩ := good_of_reg (show goodReg ops (T.quiet f id) = true from hg)
      exact region_draw ok.mixed ld good h2 hs (fun c a w hq => by cases hq.1) fun ρ' lm' a' w' s1 s2 => ⟨rfl, ρ', lm', s1, s2⟩
  | seq a b iha ihb =>
    intro hg e l σ K h
    simp only [goodCode, Bool.and_eq_true] at hg
    simp only [codeC] at h
    obtain ⟨x, e1, l1, σ1, h1, h2⟩ := iha hg.1 h
    cases x with
    | normal =>
      obtain ⟨x, e', l', σ', h3, h4⟩ := ihb hg.2 h1
      refine ⟨x, e', l', σ', h3, fun ρ lm a w hs => wp_seq (wp_mono (h2 ρ lm a w hs) fun ex a1 w1 hq => ?_)⟩
      obtain ⟨rfl, ρ1, lm1, s1, s2⟩ := hq
      obtain ⟨lm1', m1, m2⟩ := maskL_rel _ (⟨s1.act.mask _, s1.heap, s1.loc, s1.glob⟩ : SRel T ρ1 lm1 (maskE (T.join f (firstRegion b)) e1) l1 σ1 a1 w1)
      exact wp_mono (h4 ρ1 lm1' a1 w1 m1) fun ex a2 w2 ⟨hx, ρ2, lm2, t1, t2⟩ => ⟨hx, ρ2, lm2, t1, s2.trans (m2.trans t2)⟩
    | exit id =>
      refine ⟨_, _, _, _, h1, fun ρ lm a w hs => wp_seq (wp_mono (h2 ρ lm a w hs) fun ex a1 w1 hq => ?_)⟩
      obtain ⟨rfl, hq⟩ := hq
      exact ⟨rfl, hq⟩
    | ret =>
      refine ⟨_, _, _, _, h1, fun ρ lm a w hs => wp_seq (wp_mono (h2 ρ lm a w hs) fun ex a1 w1 hq => ?_)⟩
      obtain ⟨rfl, hq⟩ := hq
      exact ⟨rfl, hq⟩
  | cond c a b iha ihb =>
    intro hg e l σ K h
    simp only [goodCode, Bool.and_eq_true] at hg
    simp only [codeC] at h
    split at h
    · rename_i t hct
      have key : ∀ ρ lm (A : Act) w, SRel T ρ lm e l σ A w → A.eval c = .bool t := fun ρ lm A w hs => by
        have := ev_rel hs.act hs.glob c
        rw [hct] at this
        simpa only [VRel] using this
      cases t with
      | true =>
        obtain ⟨x, e', l', σ', h1, h2⟩ := iha hg.1 h
        exact ⟨x, e', l', σ', h1, fun ρ lm A w hs => wp_cond_true (key ρ lm A w hs) (h2 ρ lm A w hs)⟩
      | false =>
        obtain ⟨x, e', l', σ', h1, h2⟩ := ihb hg.2 h
        exact ⟨x, e', l', σ', h1, fun ρ lm A w hs => wp_cond_false (key ρ lm A w hs) (h2 ρ lm A w hs)⟩
    · cases h
  | block id c ih =>
    intro hg e l σ K h
    simp only [codeC] at h
    obtain ⟨x, e1, l1, σ1, h1, h2⟩ := ih hg h
    cases x with
    | normal =>
      refine ⟨_, _, _, _, h1, fun ρ lm a w hs => wp_block (wp_mono (h2 ρ lm a w hs) fun ex a1 w1 hq => ?_)⟩
      obtain ⟨rfl, hq⟩ := hq
      exact ⟨rfl, hq⟩
    | exit id' =>
      simp only [] at h1
      split at h1
      · rename_i hid
        refine ⟨_, _, _, _, h1, fun ρ lm a w hs => wp_block (wp_mono (h2 ρ lm a w hs) fun ex a1 w1 hq => ?_)⟩
        obtain ⟨rfl, hq⟩ := hq
        simp only [Ex.toExit, Exit.inBlock, hid, if_true]
        exact ⟨trivial, hq⟩
      · rename_i hid
        refine ⟨_, _, _, _, h1, fun ρ lm a w hs => wp_block (wp_mono (h2 ρ lm a w hs) fun ex a1 w1 hq => ?_)⟩
        obtain ⟨rfl, hq⟩ := hq
        simp only [Ex.toExit, Exit.inBlock, hid, if_false]
        exact ⟨trivial, hq⟩
    | ret =>
      refine ⟨_, _, _, _, h1, fun ρ lm a w hs => wp_block (wp_mono (h2 ρ lm a w hs) fun ex a1 w1 hq => ?_)⟩
      obtain ⟨rfl, hq⟩ := hq
      exact ⟨rfl, hq⟩
  | loop c ih =>
    intro hg e l σ K h
    simp only [codeC] at h
    obtain ⟨x, e', l', σ', h1, h2⟩ := iterC_sound (c := c) (fun h => ih hg h) h
    exact ⟨x, e', l', σ', h1, loop_ok h2⟩
  | exit id =>
    intro _ e l σ K h
    simp only [codeC] at h
    exact ⟨_, _, _, _, h, fun ρ lm a w hs => wp_exit ⟨rfl, ρ, lm, hs, Step.refl ..⟩⟩
  | ret =>
    intro _ e l σ K h
    simp only [codeC] at h
    exact ⟨_, _, _, _, h, fun ρ lm a w hs => wp_ret ⟨rfl, ρ, lm, hs, Step.refl ..⟩⟩
  | _ => intro _ e l σ K h; simp [codeC] at h

/-! ### Results, calls -/
def resultOf (tmps : Array Value) : ResultVar → Sem Value
  | .tmp t => pure (tmps.getD t undef)
  | .cell a t => do loadVar t (← asAddr (tmps.getD a undef))

theorem resultC_sound (ok : TabOK P T) {e : Env} {l : Locs} {σ : Heap} {rv : ResultVar} {k : AVal → Option R} {r : R} (h : resultC T e l σ rv k = some r) :
    ∃ v, k v = some r ∧ ∀ ρ lm a w, SRel T ρ lm e l σ a w → ∃ cv, (resultOf a.tmps rv).run P w = .ok cv w ∧ VRel ρ noL v cv := by
  have gt : ∀ {ρ lm a w}, SRel T ρ lm e l σ a w → ∀ t, VRel ρ lm (e.getD t .undef) (a.tmps.getD t undef) := fun hs t => ev_rel (T := T) hs.act hs.glob (.tmp t)
  cases rv with
  | tmp t =>
    simp only [resultC] at h
    split at h
    · rename_i hn
      refine ⟨_, h, fun ρ lm a w hs => ⟨a.tmps.getD t undef, rfl, (gt hs t).noLoc hn⟩⟩
    · cases h
  | cell a0 t =>
    simp only [resultC] at h
    obtain ⟨i, hi, h⟩ := Option.bind_eq_some_iff.1 h
    obtain ⟨inf, d, z, ti⟩ := ok.tis hi
    split at h
    · rename_i p hx
      obtain ⟨⟨b, o'⟩, hq, h⟩ := Option.bind_eq_some_iff.1 h
      obtain ⟨zs, hk, hl, hz⟩ := fetches_some h
      refine ⟨_, hk, fun ρ lm A w hs => ?_⟩
      have h1 := gt hs a0
      rw [hx, hq] at h1
      obtain ⟨pl, hp, hv⟩ := by simpa only [VRel] using h1
      obtain ⟨vs, l2, hr, hc⟩ := zs_rel (ρ := ρ) (lm := noL) (cell := fun m => w.cell? ⟨pl.blk, pl.off + (o' + m), none⟩) (fun m y hy => cell_rel hs.heap hp hy) hz
      refine ⟨if i.agg then .agg vs.toArray else vs.headD Go.undef, ?_, ti.val_rel hl (hr.any noL)⟩
      have := ti.run_loadVar w ⟨pl.blk, pl.off + o', none⟩ vs (l2.trans hl) (fun j v hj => by rw [add_none, Nat.add_assoc]; exact hc j v hj)
      simp [resultOf, hv, asAddr, this]
    · rename_i s o' hx
      split at h
      · rename_i cs hcs
        obtain ⟨zs, hk, hl, hz⟩ := fetches_some h
        refine ⟨_, hk, fun ρ lm A w hs => ?_⟩
        have h1 := gt hs a0
        rw [hx] at h1
        obtain ⟨b, hb, hv⟩ := by simpa only [VRel] using h1
        obtain ⟨_, h2⟩ := hs.loc.loc s b hb
        obtain ⟨c, ty, fr, g1, g2, g3, _⟩ := h2.of_cells hcs
        obtain ⟨vs, l2, hr, hc⟩ := zs_rel (ρ := ρ) (lm := noL) (cell := fun m => w.cell? ⟨b, o' + m, none⟩) (fun m y hy => by
          obtain ⟨v, e, hr⟩ := g3.get _ y hy
          exact ⟨v, by simpa [World.cell?, g1] using e, hr⟩) hz
        refine ⟨if i.agg then .agg vs.toArray else vs.headD Go.undef, ?_, ti.val_rel hl (hr.any noL)⟩
        have := ti.run_loadVar w ⟨b, o', none⟩ vs (l2.trans hl) (fun j v hj => by rw [add_none]; exact hc j v hj)
        simp [resultOf, hv, asAddr, this]
      · cases h
    · cases h

theorem resultsC_sound (ok : TabOK P T) {e : Env} {l : Locs} {σ : Heap} {r : R} : ∀ {rs : List ResultVar} {k : List AVal → Option R}, resultsC T e l σ rs k = some r →
    ∃ vs, k vs = some r ∧ ∀ ρ lm a w, SRel T ρ lm e l σ a w → ∃ us, (rs.mapM (resultOf a.tmps)).run P w = .ok us w ∧ VRels ρ noL vs us
  | [], k, h => ⟨[], h, fun ρ lm a w hs => ⟨[], rfl, by simp [VRels]⟩⟩
  | rv :: rs, k, h => by
    simp only [resultsC] at h
    obtain ⟨v, h1, h2⟩ := resultC_sound ok h
    obtain ⟨vs, h3, h4⟩ := resultsC_sound ok h1
    refine ⟨v :: vs, h3, fun ρ lm a w hs => ?_⟩
    obtain ⟨cv, r1, r2⟩ := h2 ρ lm a w hs
    obtain ⟨us, r3, r4⟩ := h4 ρ lm a w hs
    refine ⟨cv :: us, ?_, by simp only [VRels]; exact ⟨cv, us, rfl, r2, r4⟩⟩
    simp [List.mapM_cons, r1, r3]

def resV : List Value → Value
  | [u] => u
  | us => .tuple us.toArray
theorem run_results {fn : Func} {a : Act} {w : World} {us : List Value} (h : (fn.results.toList.mapM (resultOf a.tmps)).run P w = .ok us w) :
    (results fn a.tmps).run P w = .ok (resV us) w := by
  have e : (fn.results.mapM (resultOf a.tmps)).run P w = .ok us.toArray w := by
    rw [Array.mapM_eq_mapM_toList]
    simp [h]
  have e2 : results fn a.tmps = (do
      let vs ← fn.results.mapM (resultOf a.tmps)
      pure (if h : vs.size = 1 then vs[0] else .tuple vs)) := by
    unfold results resultOf
    rfl
  rw [e2]
  simp only [Sem.run_bind, e, Result.andThen_ok, Sem.run_pure]
  match us with
  | [] => rfl
  | [u] => rfl
  | u :: v :: us => simp [resV]

/-- What is known is so. -/
def KnownOK (P : Program) (T : Tab) (O : Known) : Prop :=
  ∀ f g, O f = some g → (∀ (ws : Array Value) (w : World), (callFunc f ws).run P w = .ok (.enter f ws) w) ∧
    ∀ (R : Type) xs σ (K : AVal → Heap → Option R) r, g R xs σ K = some r → ∃ v σ', K v σ' = some r ∧ CallOK P T f xs σ v σ'

theorem callC_sound (ok : TabOK P T) {O : Known} (kn : KnownOK P T O) (L : Nat) : ∀ (n : Nat), CallFOK P T (callC (R := R) T O L n)
  | 0 => fun g xs σ K r h => by simp [callC] at h
  | n + 1 => fun g xs σ K r h => by
    simp only [callC] at h
    split at h
    · rename_i g0 hg0
      obtain ⟨k1, k2⟩ := kn g g0 hg0
      exact ⟨k1, k2 _ xs σ K r h⟩
    rename_i hg0
    split at h
    · cases h
    · rename_i fn hfn
      split at h
      · cases h
      · rename_i c hcb
        obtain ⟨f1, f2⟩ := ok.fn g fn hfn
        obtain ⟨x, e', l', σ', h1, h2⟩ := codeC_sound ok (callC_sound ok kn L n) c (ok.good g fn c hfn hcb) h
        refine ⟨fun ws w => ?_, ?_⟩
        · simp only [beq_eq_false_iff_ne, ne_eq] at f2
          simp [callFunc, f1, f2, hcb]
        have fin : ∀ (k : List AVal → Option R), resultsC T e' l' σ' fn.results.toList k = some r → (∀ vs, k vs = (match vs with | [v] => K v σ' | vs => K (.tuple vs) σ')) → (x = .normal ∨ x = .ret) → ∃ v σ', K v σ' = some r ∧ CallOK P T g xs σ v σ' := fun k hk hkk hx => by
          obtain ⟨vs, r1, r2⟩ := resultsC_sound ok hk
          rw [hkk] at r1
          have post : ∀ (V : AVal) (hV : ∀ ρ us, VRels ρ noL vs us → VRel ρ noL V (resV us)), CallOK P T g xs σ V σ' := fun V hV => by
            intro ρ ws w hH hG hws
            have hlen := hws.length
            refine calls_of_wp f1 hcb ?_
            have hS : SRel T ρ noL (xs ++ List.replicate (fn.ntmps - xs.length) .undef) (List.replicate fn.ntmps .none) σ { tmps := ws.toArray ++ Array.replicate (fn.ntmps - ws.toArray.size) undef, defers := [] } w := by
              refine ⟨⟨by simp; omega, fun t v hv => ?_, rfl⟩, hH, ⟨fun t k hk => (by cases hk), fun t t' k hk => (by cases hk), fun t k b pl x hk => (by cases hk)⟩, hG⟩
              simp only [List.getD]
              by_cases ht : t < xs.length
              · rw [List.getElem?_append_left ht]
                obtain ⟨u, e1, r1⟩ := hws.get t xs[t] (by simp [ht])
                rw [Array.getElem?_append_left (by simp; omega)] at hv
                simp only [List.getElem?_toArray] at hv
                rw [e1] at hv
                injection hv with hv
                subst hv
                simpa [ht] using r1
              · rw [List.getElem?_append_right (by omega), List.getElem?_replicate]
                split <;> simp [VRel]
            refine wp_mono (h2 ρ noL _ w hS) fun ex a' w' hq => ?_
            obtain ⟨rfl, ρ', lm', s1, s2⟩ := hq
            obtain ⟨us, u1, u2⟩ := r2 ρ' lm' a' w' s1
            have post : bodyPost P fn (fun e w' => ∃ cv ρ', e = .returned cv ∧ HRel ρ' σ' w' ∧ VRel ρ' noL V cv ∧ Step ρ noL [] σ w ρ' noL [] σ' w') .ret a' w' :=
              ⟨s1.act.defers, _, run_results u1, _, ρ', rfl, s1.heap, hV ρ' us u2, ⟨s2.os, s2.tape, s2.output, s2.size, s2.len, s2.ext, s2.new, fun k hk h1 _ => s2.unch k hk h1 (fun t h => by cases h), s2.prov, s2.ro, s2.rob, fun t k h => by cases h⟩⟩
            rcases hx with rfl | rfl
            · exact post
            · exact post
          match vs, r1, post with
          | [v], r1, post =>
            refine ⟨v, σ', r1, post v fun ρ us hu => ?_⟩
            simp only [VRels] at hu
            obtain ⟨u, us', rfl, h1, rfl⟩ := hu
            exact h1
          | [], r1, post =>
            refine ⟨.tuple [], σ', r1, post _ fun ρ us hu => ?_⟩
            simp only [VRels] at hu
            subst hu
            simp only [VRel, VRels]
            exact ⟨[], rfl, rfl⟩
          | v1 :: v2 :: vs, r1, post =>
            refine ⟨.tuple (v1 :: v2 :: vs), σ', r1, post _ fun ρ us hu => ?_⟩
            have hu' := hu
            simp only [VRels] at hu
            obtain ⟨u, us', rfl, h1, u', us'', rfl, h2, h3⟩ := hu
            simp only [VRel]
            exact ⟨_, rfl, hu'⟩
        cases x with
        | normal => exact fin _ h1 (fun vs => rfl) (.inl rfl)
        | exit id => cases h1
        | ret => exact fin _ h1 (fun vs => rfl) (.inr rfl)
theorem known_none : KnownOK P T fun _ => none := fun f g h => by cases h

/-- A function is known from now on. -/
def Known.and (O : Known) (f : FuncId) (g : ∀ R : Type, CallF1 R) : Known := fun f' => match Nat.beq f f' with | true => some g | false => O f'
theorem known_ok (ok : TabOK P T) {O : Known} (kn : KnownOK P T O) {f : FuncId} {fn : Func} (hfn : T.fn f = some fn) (hb : fn.body.isSome = true) {g : ∀ R : Type, CallF1 R}
    (h : ∀ (R : Type) xs σ (K : AVal → Heap → Option R) r, g R xs σ K = some r → ∃ v σ', K v σ' = some r ∧ CallOK P T f xs σ v σ') : KnownOK P T (O.and f g) := by
  intro f' g' hg'
  unfold Known.and at hg'
  split at hg'
  · rename_i e
    injection hg' with hg'
    subst hg'
    obtain rfl := Nat.eq_of_beq_eq_true e
    obtain ⟨f1, f2⟩ := ok.fn f fn hfn
    refine ⟨fun ws w => ?_, h⟩
    simp only [beq_eq_false_iff_ne, ne_eq] at f2
    obtain ⟨c, hc⟩ := Option.isSome_iff_exists.1 hb
    simp [callFunc, f1, f2, hc]
  · exact kn f' g' hg'
/-- What the machine says of a call is so. -/
theorem call_ok (ok : TabOK P T) {O : Known} (kn : KnownOK P T O) {L n : Nat} {f : FuncId} {xs : List AVal} {σ : Heap} {v : AVal} {σ' : Heap}
    (h : callC (R := AVal × Heap) T O L n f xs σ (fun v σ => some (v, σ)) = some (v, σ')) : CallOK P T f xs σ v σ' := by
  obtain ⟨_, v1, σ1, h1, h2⟩ := callC_sound ok kn L n f xs σ _ _ h
  injection h1 with h1
  injection h1 with h1 h3
  subst h1; subst h3
  exact h2
end
end Go.Abs
