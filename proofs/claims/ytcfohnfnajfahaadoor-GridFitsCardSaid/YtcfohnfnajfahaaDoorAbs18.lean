/-
Regions whose order is the tape's: the invariant.
-/
import Derived.Test.YtcfohnfnajfahaaDoorAbs17
namespace Go.Abs
open Go

section
variable {P : Program} {T : Tab} {ops : Array Oper} {q : Nat → Bool} {E : Nat → Env} {L : Nat → Locs} {H : Nat → Heap} {V : Nat → AVal}
  {p z : Nat} {ρ0 : Mp} {lm0 : Lp} {w0 : World} {S : Nat → Bool} {ρ : Mp} {lm : Lp} {a : Act} {w : World}

def Closed (ops : Array Oper) (S : Nat → Bool) : Prop := ∀ (k : Nat) (o : Oper) (m : Nat), S k = true → ops[k]? = some o → hasEdge o m = true → S m = true

theorem Anc.inS {m i : Nat} (h : Anc ops m i) : ∀ {o : Oper}, ops[i]? = some o → Closed ops S → (∀ m, hasEdge o m = true → S m = true) → S m = true := by
  induction h with
  | edge ho hm =>
    intro o ho' cl hall
    rw [ho] at ho'
    injection ho' with ho'
    subst ho'
    exact hall _ hm
  | more hmk ho hk ih =>
    intro o ho' cl hall
    rw [ho] at ho'
    injection ho' with ho'
    subst ho'
    have hSk := hall _ hk
    cases hmk with
    | edge ho2 hm2 => exact cl _ _ _ hSk ho2 hm2
    | more hmk2 ho2 hk2 => exact ih ho2 cl fun m' hm' => cl _ _ _ hSk ho2 hm'

/-- What an operation looks at. -/
theorem look_rel {h : Nat} (hhp : h ≤ p) (run : RunOf P T ops q E L H V) (good : Good ops h q) (s : Seg ops q p z) (base : Base T L H p ρ0 lm0) (inv : Inv T ops E L H V p z ρ0 lm0 w0 S ρ lm a w)
    (cl : Closed ops S) {i : Nat} {o : Oper} (hi : ops[i]? = some o) (hp : p ≤ i) (hz : i ≤ z) (hS : i < z → S i = false) (hedge : ∀ m, hasEdge o m = true → S m = true)
    (hall : i = z → ∀ k, p ≤ k → k < z → S k = true)
    {t : Nat} (ht : i < z → t ∈ o.looksAt ops) {v : Value} (hv : a.tmps[t]? = some v) : VRel (cutR ρ (H i)) (cutL lm (L i)) ((E i).getD t .undef) v := by
  have hsz : t < (E p).length := by
    have := (Array.getElem?_eq_some_iff.1 hv).1
    rw [inv.size] at this
    exact this
  obtain ⟨d, rfl⟩ := Nat.le.dest hp
  obtain ⟨h1, h2⟩ := env_at run s t d hz
  obtain ⟨c1, c2⟩ := inv.act t v hv
  rcases h2 with ⟨k, ok, k1, k2, k3, k4, k5⟩ | ⟨k1, k2⟩
  · -- of an operation before it
    have hkS : S k = true := by
      rcases Nat.lt_or_ge (p + d) z with hlt | hge
      · obtain ⟨h, _⟩ := good.two k (p + d) ok o k3 hi (by omega) k2 (fun m m1 m2 => s.quiet m (by omega) (by omega))
        rcases h with h | h
        · exact h.inS hi cl hedge
        · exact absurd (ht hlt) ((Oper.apart_spec h).1 t k4)
      · exact hall (by omega) k k1 (by omega)
    rw [k5 hsz]
    obtain ⟨m1, m2, m3⟩ := seg_mono' run s (i := k + 1) (j := p + d) (by omega) (by omega) hz
    exact (c1 k ok k1 (by omega) hkS k3 k4).mono (fun b pl hb => by rw [cutR_some] at hb ⊢; exact ⟨by omega, hb.2⟩)
      (fun t k hk => by rw [cutL_some] at hk ⊢; exact ⟨by rw [m3 t hk.1]; exact hk.1, hk.2⟩)
  · rw [k2]
    have hno : ∀ k ok, p ≤ k → k < z → S k = true → ops[k]? = some ok → ok.dst ≠ some t := fun k ok q1 q2 q3 q4 q5 => by
      rcases Nat.lt_trichotomy k (p + d) with h | h | h
      · exact k1 k ok q1 h q4 q5
      · subst h
        rw [hS q2] at q3
        cases q3
      · have hlt : p + d < z := by omega
        obtain ⟨h', _⟩ := good.two (p + d) k o ok hi q4 (by omega) h (fun m m1 m2 => s.quiet m (by omega) (by omega))
        rcases h' with h' | h'
        · have := h'.inS q4 cl fun m hm => cl k ok m q3 q4 hm
          rw [hS hlt] at this
          cases this
        · exact absurd (ht hlt) ((Oper.apart_spec h').2.2 t q5)
    obtain ⟨m1, m2, m3⟩ := seg_mono' run s (i := p) (j := p + d) (by omega) (by omega) hz
    exact (c2 hno).mono (fun b pl hb => by rw [cutR_some]; exact ⟨by have := base.r b pl hb; omega, inv.ext b pl hb⟩)
      (fun t k hk => by rw [cutL_some]; have := base.l t k hk; exact ⟨by rw [m3 t this]; exact this, inv.lext t k hk⟩)

theorem opnd_rel {ρ' : Mp} {lm' : Lp} {e : Env} (hsz : a.tmps.size = e.length) (hg : GRel T ρ') (x : Operand) (h : ∀ t v, x = .tmp t → a.tmps[t]? = some v → VRel ρ' lm' (e.getD t .undef) v) :
    VRel ρ' lm' (ev T e x) (a.eval x) := by
  cases x with
  | tmp t =>
    simp only [ev, Act.eval]
    cases ht : a.tmps[t]? with
    | some v => simpa [Array.getD_eq_getD_getElem?, ht] using h t v rfl ht
    | none =>
      have : e.length ≤ t := by
        have := Array.getElem?_eq_none_iff.1 ht
        omega
      have : e.getD t .undef = .undef := by simp [List.getD, List.getElem?_eq_none this]
      rw [this]
      simp [VRel]
  | const v => exact ofConst_rel ρ' lm' v
  | global g =>
    simp only [ev, Act.eval]
    split
    · rename_i hgl
      obtain ⟨n, hn⟩ := hg g hgl
      simp only [VRel]
      exact ⟨_, hn, by simp⟩
    · simp [VRel]
  | func f =>
    simp only [ev, Act.eval, VRel, VRels]
    exact ⟨[], rfl, rfl⟩

/-- One more operation has run. -/
theorem inv_next {h : Nat} (hhp : h ≤ p) (run : RunOf P T ops q E L H V) (good : Good ops h q) (s : Seg ops q p z) (base : Base T L H p ρ0 lm0) (inv : Inv T ops E L H V p z ρ0 lm0 w0 S ρ lm a w)
    {i : Nat} {o : Oper} (hi : ops[i]? = some o) (hp : p ≤ i) (hz : i < z) (hS : S i = false)
    {l1 : Locs} {σ1 : Heap} (hL1 : L (i + 1) = (L i).back l1) (hH1 : H (i + 1) = (H i).back σ1)
    {ρ' : Mp} {lm' : Lp} {w' : World} {cv : Value} (q1 : HRel ρ' σ1 w') (q2 : LRel ρ' lm' l1 σ1 w') (q3 : VRel ρ' lm' (V i) cv)
    (q4 : Step (cutR ρ (H i)) (cutL lm (L i)) (L i).frz (H i).frz w ρ' lm' l1 σ1 w') (q5 : LExt (cutL lm (L i)) lm' (L i).frz w o.dst) :
    ∃ ρn lmn, Inv T ops E L H V p z ρ0 lm0 w0 (fun k => k == i || S k) ρn lmn (a.put o.dst cv) w' := by
  have hlen : (H i).length ≤ σ1.length := by have := q4.len; rw [Heap.frz_length] at this; exact this
  have hlen1 : (H (i + 1)).length = σ1.length := by rw [hH1]; exact Heap.back_length _ _ hlen
  have mono : ∀ {j j' : Nat}, p ≤ j → j ≤ j' → j' ≤ z → _ := fun {j j'} h1 h2 h3 => seg_mono' run s (i := j) (j := j') h1 h2 h3
  -- the world has grown
  have hx : ∀ k, k < w.heap.size → w'.heap[k]? = w.heap[k]? := fun k hk => q4.unch k hk
    (fun b pl x _ hb hr => by
      rw [Heap.frz_get] at hb
      obtain ⟨y, _, rfl⟩ := Option.map_eq_some_iff.1 hb
      rw [Blk.frz_isRW] at hr; cases hr)
    (fun t ht => by
      rw [cutL_some] at ht
      rw [Locs.frz_getD]
      exact LBlk.frz_ro ht.1)
  have hws := q4.size
  -- what is new is nobody else's
  have fresh : ∀ b pl x, ρ' b = some pl → σ1[b]? = some x → x.isRW = true → w.heap.size ≤ pl.blk := fun b pl x hb hx' hr => by
    rcases q4.prov b pl x hb hx' hr with h | ⟨b0, pl0, x0, g1, g2, g3, g4⟩
    · exact h
    · rw [Heap.frz_get] at g2
      obtain ⟨y, _, rfl⟩ := Option.map_eq_some_iff.1 g2
      rw [Blk.frz_isRW] at g3; cases g3
  have newrw : ∀ b x, (H i).length ≤ b → σ1[b]? = some x → x.isRO = false := fun b x hb hx' => by
    cases hr : x.isRO with
    | false => rfl
    | true =>
      have := (List.getElem?_eq_some_iff.1 (q4.rob b x hx' hr)).1
      rw [Heap.frz_length] at this
      omega
  have rnone : ∀ b, (H i).length ≤ b → b < (H (i + 1)).length → ρ b = none := fun b h1 h2 => by
    cases hb : ρ b with
    | none => rfl
    | some pl =>
      cases hb0 : ρ0 b with
      | some pl0 =>
        have := base.r b pl0 hb0
        have := (mono (j := p) (j' := i) (by omega) hp (by omega)).1
        omega
      | none =>
        obtain ⟨k, k1, k2, k3, k4, k5⟩ := inv.newR b (by rw [hb]; simp) hb0
        rcases Nat.lt_trichotomy k i with h | h | h
        · have := (mono (j := k + 1) (j' := i) (by omega) (by omega) (by omega)).1
          omega
        · subst h; rw [hS] at k3; cases k3
        · have := (mono (j := i + 1) (j' := k) (by omega) (by omega) (by omega)).1
          omega
  have lnone : ∀ t, o.dst = some t → (L i).getD t .none = .none → lm t = none := fun t ht hl => by
    cases hb : lm t with
    | none => rfl
    | some kk =>
      cases hb0 : lm0 t with
      | some k0 =>
        have := base.l t k0 hb0
        exact absurd hl (by rw [(mono (j := p) (j' := i) (by omega) hp (by omega)).2.2 t this]; exact this)
      | none =>
        obtain ⟨_, k, ok, k1, k2, k3, k4, k5⟩ := inv.newL t kk hb hb0
        rcases Nat.lt_trichotomy k i with h | h | h
        · exact absurd ht ((good.two k i ok o k4 hi (by omega) h (fun m m1 m2 => s.quiet m (by omega) (by omega))).2 t k5)
        · subst h; rw [hS] at k3; cases k3
        · exact absurd k5 ((good.two i k o ok hi k4 (by omega) h (fun m m1 m2 => s.quiet m (by omega) (by omega))).2 t ht)
  have dnone : ∀ t k ok, o.dst = some t → p ≤ k → k < z → S k = true → ops[k]? = some ok → ok.dst ≠ some t := fun t k ok ht k1 k2 k3 k4 k5 => by
    rcases Nat.lt_trichotomy k i with h | h | h
    · exact absurd ht ((good.two k i ok o k4 hi (by omega) h (fun m m1 m2 => s.quiet m (by omega) (by omega))).2 t k5)
    · subst h; rw [hS] at k3; cases k3
    · exact absurd k5 ((good.two i k o ok hi k4 (by omega) h (fun m m1 m2 => s.quiet m (by omega) (by omega))).2 t ht)
  -- the new places
  let ρn : Mp := fun b => match ρ b with | some pl => some pl | none => if (H i).length ≤ b then ρ' b else none
  let lmn : Lp := fun t => match lm t with | some k => some k | none => if ((L i).getD t .none).isNone then lm' t else none
  have rn1 : ∀ b pl, ρ b = some pl → ρn b = some pl := fun b pl hb => by simp only [ρn, hb]
  have rn2 : ∀ b pl, ρn b = some pl → ρ b = some pl ∨ (ρ b = none ∧ (H i).length ≤ b ∧ ρ' b = some pl) := fun b pl hb => by
    simp only [ρn] at hb
    split at hb
    · rename_i h; injection hb with hb; subst hb; exact .inl h
    · rename_i h
      split at hb
      · exact .inr ⟨h, by assumption, hb⟩
      · cases hb
  have ln1 : ∀ t k, lm t = some k → lmn t = some k := fun t k hb => by simp only [lmn, hb]
  have ln2 : ∀ t k, lmn t = some k → lm t = some k ∨ (lm t = none ∧ (L i).getD t .none = .none ∧ lm' t = some k) := fun t k hb => by
    simp only [lmn] at hb
    split at hb
    · rename_i h; injection hb with hb; subst hb; exact .inl h
    · rename_i h
      split at hb
      · rename_i h'; exact .inr ⟨h, LBlk.isNone_iff.1 h', hb⟩
      · cases hb
  have rlt : ∀ b pl, ρ' b = some pl → b < (H (i + 1)).length := fun b pl hb => by
    obtain ⟨x, hx', _⟩ := q1.blk b pl hb
    rw [hlen1]
    exact (List.getElem?_eq_some_iff.1 hx').1
  -- what the operation's own places are, told by the new ones
  have rle : ∀ b pl, ρ' b = some pl → ρn b = some pl := fun b pl hb => by
    rcases Nat.lt_or_ge b (H i).length with h | h
    · cases hc : cutR ρ (H i) b with
      | none =>
        have := q4.new b hc (by rw [hb]; simp)
        rw [Heap.frz_length] at this
        omega
      | some pl0 =>
        have := q4.ext b pl0 hc
        rw [hb] at this
        injection this with this
        subst this
        exact rn1 b pl (cutR_some.1 hc).2
    · have := rnone b h (rlt b pl hb)
      simp only [ρn, this, if_pos h]
      exact hb
  have lnew : ∀ t k, lm' t = some k → cutL lm (L i) t = none → o.dst = some t ∧ (L i).getD t .none = .none ∧ w.heap.size ≤ k ∧ lm t = none := fun t k hk hn => by
    obtain ⟨h1, h2, h3⟩ := q5.2 t k hn hk
    have h4 : (L i).getD t .none = .none := LBlk.frz_none (by rw [← Locs.frz_getD]; simp [List.getD, h2])
    exact ⟨h1, h4, h3, lnone t h1 h4⟩
  have lnn : ∀ t k, lm' t = some k → (L (i + 1)).getD t .none ≠ .none := fun t k hk => by
    by_cases h : (L i).getD t .none = .none
    · rw [hL1, Locs.back_new _ h]
      intro h'
      have := (q2.loc t k hk).2
      rw [h'] at this
      exact this
    · rw [hL1, Locs.back_old _ h]; exact h
  have lle : ∀ t k, lm' t = some k → lmn t = some k := fun t k hk => by
    cases hc : cutL lm (L i) t with
    | some k0 =>
      have := q5.1 t k0 hc
      rw [hk] at this
      injection this with this
      subst this
      exact ln1 t k (cutL_some.1 hc).2
    | none =>
      obtain ⟨_, h4, _, h5⟩ := lnew t k hk hc
      simp only [lmn, h5]
      rw [if_pos (LBlk.isNone_iff.2 h4)]
      exact hk
  have cut1 : ∀ {j : Nat}, i + 1 ≤ j → j ≤ z → (∀ b pl, ρ' b = some pl → cutR ρn (H j) b = some pl) ∧ (∀ t k, lm' t = some k → cutL lmn (L j) t = some k) := fun {j} h1 h2 => by
    obtain ⟨m1, m2, m3⟩ := mono (j := i + 1) (j' := j) (by omega) h1 h2
    refine ⟨fun b pl hb => cutR_some.2 ⟨by have := rlt b pl hb; omega, rle b pl hb⟩, fun t k hk => cutL_some.2 ⟨?_, lle t k hk⟩⟩
    have := lnn t k hk
    rw [m3 t this]; exact this
  have cut2 : ∀ {j : Nat}, (∀ b pl, cutR ρ (H j) b = some pl → cutR ρn (H j) b = some pl) ∧ (∀ t k, cutL lm (L j) t = some k → cutL lmn (L j) t = some k) := fun {j} =>
    ⟨fun b pl hb => by rw [cutR_some] at hb ⊢; exact ⟨hb.1, rn1 b pl hb.2⟩, fun t k hk => by rw [cutL_some] at hk ⊢; exact ⟨hk.1, ln1 t k hk.2⟩⟩
  refine ⟨ρn, lmn, ?_⟩
  refine ⟨fun b pl hb => rn1 b pl (inv.ext b pl hb), fun t k hk => ln1 t k (inv.lext t k hk), fun b hb hb0 => ?_, fun t kk hk hk0 => ?_, fun b pl x hb hb0 hx' hr => ?_, fun k b x k1 k2 k3 hb hx' => ?_,
    fun j hj1 hj2 => ?_, by rw [actput_size]; exact inv.size, by rw [actput_defers]; exact inv.defers, fun t v hv => ?_, q4.os.trans inv.os, q4.tape.trans inv.tape, q4.output.trans inv.output, Nat.le_trans inv.hsize hws,
    fun k hk => by rw [hx k (Nat.lt_of_lt_of_le hk inv.hsize), inv.old k hk]⟩
  · cases hbn : ρn b with
    | none => exact absurd hbn hb
    | some pl =>
      rcases rn2 b pl hbn with h | ⟨_, h2, h3⟩
      · obtain ⟨k, k1, k2, k3, k4⟩ := inv.newR b (by rw [h]; simp) hb0
        exact ⟨k, k1, k2, by simp [k3], k4⟩
      · exact ⟨i, hp, hz, by simp, h2, rlt b pl h3⟩
  · rcases ln2 t kk hk with h | ⟨h1, h2, h3⟩
    · obtain ⟨g1, k, ok, k1, k2, k3, k4⟩ := inv.newL t kk h hk0
      exact ⟨g1, k, ok, k1, k2, by simp [k3], k4⟩
    · have hc : cutL lm (L i) t = none := by simp [cutL, h1]
      obtain ⟨g1, _, g2, _⟩ := lnew t kk h3 hc
      exact ⟨Nat.le_trans inv.hsize g2, i, o, hp, hz, by simp, hi, g1⟩
  · rcases rn2 b pl hb with h | ⟨_, h2, h3⟩
    · exact inv.prov b pl x h hb0 hx' hr
    · have hb1 := rlt b pl h3
      rw [(mono (j := i + 1) (j' := z) (by omega) (by omega) (Nat.le_refl _)).2.1 b hb1, hH1, Heap.back_new _ _ h2] at hx'
      exact Nat.le_trans inv.hsize (fresh b pl x h3 hx' hr)
  · simp only [Bool.or_eq_true, beq_iff_eq] at k3
    by_cases e : k = i
    · subst e
      rw [hH1, Heap.back_new _ _ hb] at hx'
      exact newrw b x hb hx'
    · exact inv.nro k b x k1 k2 (k3.resolve_left e) hb hx'
  · obtain ⟨r1, r2⟩ := inv.rel j hj1 hj2
    rcases Nat.lt_or_ge i j with hij | hij
    · -- after it
      obtain ⟨m1, m2, m3⟩ := mono (j := i + 1) (j' := j) (by omega) hij hj2
      obtain ⟨c1, c2⟩ := cut1 (j := j) hij hj2
      obtain ⟨d1, d2⟩ := cut2 (j := j)
      -- a place is an old one or a new one
      have caseR : ∀ b pl x, cutR ρn (H j) b = some pl → (H j)[b]? = some x → (cutR ρ (H j) b = some pl ∧ BRel (cutR ρ (H j)) pl w x) ∨ (ρ' b = some pl ∧ σ1[b]? = some x ∧ (H i).length ≤ b) := fun b pl x hb hx' => by
        rw [cutR_some] at hb
        rcases rn2 b pl hb.2 with h | ⟨_, h2, h3⟩
        · have hc := cutR_some.2 ⟨hb.1, h⟩
          obtain ⟨y, hy, hB⟩ := r1.blk b pl hc
          rw [hx'] at hy
          injection hy with hy
          subst hy
          exact .inl ⟨hc, hB⟩
        · rw [m2 b (rlt b pl h3), hH1, Heap.back_new _ _ h2] at hx'
          exact .inr ⟨h3, hx', h2⟩
      have newlive : ∀ b pl x, ρ' b = some pl → σ1[b]? = some x → (H i).length ≤ b → x.live = true → w.heap.size ≤ pl.blk := fun b pl x h1 h2 h3 h4 => by
        rcases Blk.live_cases h4 with h | h
        · exact fresh b pl x h1 h2 h
        · rw [newrw b x h3 h2] at h; cases h
      have caseL : ∀ t kk, cutL lmn (L j) t = some kk → cutL lm (L j) t = some kk ∨ (lm' t = some kk ∧ (L i).getD t .none = .none ∧ w.heap.size ≤ kk ∧ o.dst = some t) := fun t kk hk => by
        rw [cutL_some] at hk
        rcases ln2 t kk hk.2 with h | ⟨h1, h2, h3⟩
        · exact .inl (cutL_some.2 ⟨hk.1, h⟩)
        · have hc : cutL lm (L i) t = none := by simp [cutL, h1]
          obtain ⟨g1, _, g2, _⟩ := lnew t kk h3 hc
          exact .inr ⟨h3, h2, g2, g1⟩
      refine ⟨⟨fun b pl hb => ?_, fun b b' pl pl' x x' hb hb' hx1 hx2 hne hl hl' hr => ?_⟩, ⟨fun t kk hk => ?_, fun t t' kk hk hk' => ?_, fun t kk b pl x hk hb hx' hl => ?_⟩⟩
      · have hb2 := (cutR_some.1 hb).1
        have hx' : (H j)[b]? = some ((H j)[b]'hb2) := by simp
        refine ⟨_, hx', ?_⟩
        rcases caseR b pl _ hb hx' with ⟨h1, h2⟩ | ⟨h1, h2, h3⟩
        · exact h2.mono d1 (fun hl => hx _ (h2.lt hl))
        · obtain ⟨y, hy, hB⟩ := q1.blk b pl h1
          rw [h2] at hy
          injection hy with hy
          rw [hy]
          exact hB.mono c1 (fun _ => rfl)
      · rcases caseR b pl x hb hx1 with ⟨h1, h2⟩ | ⟨h1, h2, h3⟩ <;> rcases caseR b' pl' x' hb' hx2 with ⟨g1, g2⟩ | ⟨g1, g2, g3⟩
        · exact r1.dis b b' pl pl' x x' h1 g1 hx1 hx2 hne hl hl' hr
        · have := h2.lt hl
          have := newlive b' pl' x' g1 g2 g3 hl'
          omega
        · have := g2.lt hl'
          have := newlive b pl x h1 h2 h3 hl
          omega
        · exact q1.dis b b' pl pl' x x' h1 g1 h2 g2 hne hl hl' hr
      · rcases caseL t kk hk with h | ⟨h1, h2, h3, h4⟩
        · obtain ⟨g1, g2⟩ := r2.loc t kk h
          exact ⟨by omega, g2.mono d1 (hx kk g1)⟩
        · obtain ⟨g1, g2⟩ := q2.loc t kk h1
          refine ⟨g1, ?_⟩
          rw [m3 t (lnn t kk h1), hL1, Locs.back_new _ h2]
          exact g2.mono c1 rfl
      · rcases caseL t kk hk with h | ⟨h1, h2, h3, h4⟩ <;> rcases caseL t' kk hk' with g | ⟨g1, g2, g3, g4⟩
        · exact r2.inj t t' kk h g
        · have := (r2.loc t kk h).1
          omega
        · have := (r2.loc t' kk g).1
          omega
        · rw [h4] at g4; injection g4
      · rcases caseL t kk hk with h | ⟨h1, h2, h3, h4⟩ <;> rcases caseR b pl x hb hx' with ⟨g1, g2⟩ | ⟨g1, g2, g3⟩
        · exact r2.apart t kk b pl x h g1 hx' hl
        · have := (r2.loc t kk h).1
          have := newlive b pl x g1 g2 g3 hl
          omega
        · have := g2.lt hl
          omega
        · exact q2.apart t kk b pl x h1 g1 g2 hl
    · -- before it
      obtain ⟨m1, m2, m3⟩ := mono (j := j) (j' := i) hj1 hij (by omega)
      have e1 : cutR ρn (H j) = cutR ρ (H j) := by
        funext b
        unfold cutR
        split
        · simp only [ρn]
          split
          · rename_i h; rw [h]
          · rename_i h; rw [if_neg (by omega), h]
        · rfl
      have e2 : cutL lmn (L j) = cutL lm (L j) := by
        funext t
        unfold cutL
        split
        · rfl
        · rename_i hn
          have hn' : (L j).getD t .none ≠ .none := fun h => hn (LBlk.isNone_iff.2 h)
          simp only [lmn]
          split
          · rename_i h; rw [h]
          · rename_i h
            rw [if_neg, h]
            intro h'
            rw [LBlk.isNone_iff, m3 t hn'] at h'
            exact hn' h'
      rw [e1, e2]
      exact ⟨r1.grow hx, r2.grow hws hx⟩
  · rw [actput_get] at hv
    by_cases hd : o.dst = some t ∧ t < a.tmps.size
    · rw [if_pos hd] at hv
      injection hv with hv
      subst hv
      refine ⟨fun k ok k1 k2 k3 k4 k5 => ?_, fun h => absurd hd.1 (h i o hp hz (by simp) hi)⟩
      simp only [Bool.or_eq_true, beq_iff_eq] at k3
      by_cases e : k = i
      · subst e
        obtain ⟨c1, c2⟩ := cut1 (j := k + 1) (Nat.le_refl _) (by omega)
        exact q3.mono c1 c2
      · exact absurd k5 (dnone t k ok hd.1 k1 k2 (k3.resolve_left e) k4)
    · rw [if_neg hd] at hv
      have hd' : o.dst ≠ some t := fun h => hd ⟨h, (Array.getElem?_eq_some_iff.1 hv).1⟩
      obtain ⟨c1, c2⟩ := inv.act t v hv
      refine ⟨fun k ok k1 k2 k3 k4 k5 => ?_, fun h => c2 fun k ok k1 k2 k3 => h k ok k1 k2 (by simp [k3])⟩
      simp only [Bool.or_eq_true, beq_iff_eq] at k3
      by_cases e : k = i
      · subst e
        rw [hi] at k4
        injection k4 with k4
        subst k4
        exact absurd k5 hd'
      · obtain ⟨d1, d2⟩ := cut2 (j := k + 1)
        exact (c1 k ok k1 k2 (k3.resolve_left e) k4 k5).mono d1 d2
end
end Go.Abs
