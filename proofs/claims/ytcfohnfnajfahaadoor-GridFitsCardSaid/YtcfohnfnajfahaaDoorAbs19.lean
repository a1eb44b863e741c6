/-
Regions whose order is the tape's: all orders.
-/
import Derived.Test.YtcfohnfnajfahaaDoorAbs18
namespace Go.Abs
open Go

section
variable {P : Program} {T : Tab} {ops : Array Oper} {q : Nat → Bool} {E : Nat → Env} {L : Nat → Locs} {H : Nat → Heap} {V : Nat → AVal}
  {p z : Nat} {ρ0 : Mp} {lm0 : Lp} {w0 : World} {S : Nat → Bool} {ρ : Mp} {lm : Lp} {a : Act} {w : World}

theorem looks_tmp {o : Oper} {t : Nat} (h : Operand.tmp t ∈ o.op.operands.toList) : t ∈ o.looksAt ops :=
  List.mem_append_left _ (List.mem_filterMap.2 ⟨.tmp t, h, rfl⟩)
theorem looks_guard {o : Oper} {g : Nat} {want : Bool} {d : Nat} (h : o.guard = some (g, want)) (hd : (ops[g]?).bind (·.dst) = some d) : d ∈ o.looksAt ops := by
  unfold Oper.looksAt
  refine List.mem_append_right _ ?_
  simp [h, hd]

theorem locs_back_frz (l : Locs) : l.back l.frz = l := by
  unfold Locs.frz
  induction l with
  | nil => rfl
  | cons x xs ih =>
    simp only [List.map_cons, Locs.back, ih]
    cases x <;> rfl
theorem heap_back_frz (σ : Heap) : σ.back σ.frz = σ := by
  unfold Heap.back
  rw [List.drop_of_length_le (by rw [Heap.frz_length]; omega), List.append_nil]

theorem inv_step {h : Nat} (hhp : h ≤ p) (run : RunOf P T ops q E L H V) (good : Good ops h q) (s : Seg ops q p z) (base : Base T L H p ρ0 lm0) (inv : Inv T ops E L H V p z ρ0 lm0 w0 S ρ lm a w)
    (cl : Closed ops S) {i : Nat} {o : Oper} (hi : ops[i]? = some o) (hp : p ≤ i) (hz : i < z) (hS : S i = false) (hedge : ∀ m, hasEdge o m = true → S m = true)
    {Q : Exit → Act → World → Prop} {K : Act → World → Prop}
    (hK : ∀ ρ' lm' a' w', Inv T ops E L H V p z ρ0 lm0 w0 (fun k => k == i || S k) ρ' lm' a' w' → K a' w') : wpOp P ops Q i K a w := by
  have look : ∀ t v, t ∈ o.looksAt ops → a.tmps[t]? = some v → VRel (cutR ρ (H i)) (cutL lm (L i)) ((E i).getD t .undef) v := fun t v ht hv =>
    look_rel hhp run good s base inv cl hi hp (by omega) (fun _ => hS) hedge (fun h => by omega) (fun _ => ht) hv
  have hEl : a.tmps.size = (E i).length := by
    rw [inv.size]
    obtain ⟨d, rfl⟩ := Nat.le.dest hp
    exact (env_at run s 0 d (by omega)).1.symm
  have hglob : GRel T (cutR ρ (H i)) := fun g hg => by
    obtain ⟨n, hn⟩ := base.glob g hg
    refine ⟨n, cutR_some.2 ⟨?_, inv.ext _ _ hn⟩⟩
    have := base.r _ _ hn
    have := (seg_mono' run s (i := p) (j := i) (by omega) hp (by omega)).1
    omega
  have gval : ∀ g want d, o.guard = some (g, want) → (ops[g]?).bind (·.dst) = some d → (E i).getD d .undef ≠ .undef → ∃ v, a.tmps[d]? = some v ∧ VRel (cutR ρ (H i)) (cutL lm (L i)) ((E i).getD d .undef) v := fun g want d hg hd hne => by
    have hl : d < a.tmps.size := by
      rw [hEl]
      rcases Nat.lt_or_ge d (E i).length with h' | h'
      · exact h'
      · rw [List.getD, List.getElem?_eq_none h'] at hne; exact absurd rfl hne
    exact ⟨a.tmps[d], by simp [hl], look d _ (looks_guard hg hd) (by simp [hl])⟩
  obtain ⟨rH, rL⟩ := inv.rel i hp (by omega)
  have st := run.step i o hi
  rw [s.quiet i hp hz] at st
  unfold wpOp
  simp only [hi]
  rcases st with ⟨hw, l1, σ1, h1, hL1, hH1⟩ | ⟨hw, hv, hL1, hH1⟩
  · rw [if_pos (wanted_true hw fun g want d hg hd he => by
      obtain ⟨u, e1, r1⟩ := gval g want d hg hd (by rw [he]; simp)
      rw [he] at r1
      simp only [VRel] at r1
      rw [e1, r1])]
    refine .inl (h1 _ _ a w rH.frz rL.frz hglob (fun x hx => opnd_rel hEl hglob x fun t v hxt hv => look t v (looks_tmp (hxt ▸ hx)) hv) _ _ fun cv w' ρ' lm' q1 q2 q3 q4 q5 => ?_)
    obtain ⟨ρn, lmn, h⟩ := inv_next hhp run good s base inv hi hp hz hS hL1 hH1 q1 q2 q3 q4 q5
    exact hK ρn lmn _ _ h
  · rw [if_neg (by
      rw [wanted_false hw fun g want d hg hd x hx he => ?_]
      · simp
      · obtain ⟨u, e1, r1⟩ := gval g want d hg hd (by rw [he]; rcases hx with rfl | ⟨b, rfl⟩ <;> simp)
        refine ⟨u, e1, ?_⟩
        rw [he] at r1
        rcases hx with rfl | ⟨b, rfl⟩ <;> simpa [VRel] using r1)]
    obtain ⟨ρn, lmn, h⟩ := inv_next (cv := Go.undef) hhp run good s base inv hi hp hz hS (l1 := (L i).frz) (σ1 := (H i).frz) (by rw [hL1, locs_back_frz]) (by rw [hH1, heap_back_frz]) rH.frz rL.frz (by rw [hv]; simp [VRel]) (Step.refl ..) (LExt.refl ..)
    exact hK ρn lmn _ _ h

/-- All of a stretch has run. -/
theorem inv_done (run : RunOf P T ops q E L H V) (s : Seg ops q p z) (base : Base T L H p ρ0 lm0) (inv : Inv T ops E L H V p z ρ0 lm0 w0 S ρ lm a w)
    (hall : ∀ k, p ≤ k → k < z → S k = true) : SRel T (cutR ρ (H z)) (cutL lm (L z)) (E z) (L z) (H z) a w ∧ Step ρ0 lm0 (L p) (H p) w0 (cutR ρ (H z)) (cutL lm (L z)) (L z) (H z) w := by
  obtain ⟨m1, m2, m3⟩ := seg_mono' run s (i := p) (j := z) (by omega) s.le (by omega)
  obtain ⟨rH, rL⟩ := inv.rel z s.le (by omega)
  have hEl : (E z).length = (E p).length := by
    obtain ⟨d, hd⟩ := Nat.le.dest s.le
    have := (env_at run s 0 d (by omega)).1
    rwa [hd] at this
  have hext : ∀ b pl, ρ0 b = some pl → cutR ρ (H z) b = some pl := fun b pl hb => cutR_some.2 ⟨by have := base.r b pl hb; omega, inv.ext b pl hb⟩
  have hlext : ∀ t k, lm0 t = some k → cutL lm (L z) t = some k := fun t k hk => cutL_some.2 ⟨by have := base.l t k hk; rw [m3 t this]; exact this, inv.lext t k hk⟩
  refine ⟨⟨⟨by rw [inv.size, hEl], fun t v hv => ?_, inv.defers⟩, rH, rL, fun g hg => let ⟨n, hn⟩ := base.glob g hg; ⟨n, hext _ _ hn⟩⟩, ?_⟩
  · have hsz : t < (E p).length := by
      have := (Array.getElem?_eq_some_iff.1 hv).1
      rw [inv.size] at this
      exact this
    obtain ⟨c1, c2⟩ := inv.act t v hv
    obtain ⟨d, hd⟩ := Nat.le.dest s.le
    have := (env_at run s t d (by omega)).2
    rw [hd] at this
    rcases this with ⟨k, ok, k1, k2, k3, k4, k5⟩ | ⟨k1, k2⟩
    · rw [k5 hsz]
      obtain ⟨n1, n2, n3⟩ := seg_mono' run s (i := k + 1) (j := z) (by omega) (by omega) (by omega)
      exact (c1 k ok k1 k2 (hall k k1 k2) k3 k4).mono (fun b pl hb => by rw [cutR_some] at hb ⊢; exact ⟨by omega, hb.2⟩)
        (fun t k hk => by rw [cutL_some] at hk ⊢; exact ⟨by rw [n3 t hk.1]; exact hk.1, hk.2⟩)
    · rw [k2]
      exact (c2 fun k ok q1 q2 _ q3 => k1 k ok q1 q2 q3).mono hext hlext
  · refine ⟨inv.os, inv.tape, inv.output, inv.hsize, m1, hext, fun b h0 h1 => ?_, fun k hk _ _ => inv.old k hk, fun b pl x hb hx hr => ?_, fun b x hb hr => ?_, fun b x hb hr => ?_, fun t k hk hr => ?_⟩
    · cases hc : cutR ρ (H z) b with
      | none => exact absurd hc h1
      | some pl =>
        obtain ⟨k, k1, k2, k3, k4, k5⟩ := inv.newR b (by rw [(cutR_some.1 hc).2]; simp) h0
        have := (seg_mono' run s (i := p) (j := k) (by omega) k1 (by omega)).1
        omega
    · have hb' := (cutR_some.1 hb).2
      cases h0 : ρ0 b with
      | none => exact .inl (inv.prov b pl x hb' h0 hx hr)
      | some pl0 =>
        have := inv.ext b pl0 h0
        rw [hb'] at this
        injection this with this
        subst this
        exact .inr ⟨b, pl, x, h0, by rw [← m2 b (base.r b pl h0)]; exact hx, hr, rfl⟩
    · rw [m2 b (List.getElem?_eq_some_iff.1 hb).1]; exact hb
    · -- where did it come from
      have key : ∀ d, p + d ≤ z → ∀ x, (H (p + d))[b]? = some x → x.isRO = true → (H p)[b]? = some x := fun d => by
        induction d with
        | zero => intro _ x hx _; exact hx
        | succ d ih =>
          intro hd x hx hr
          rcases Nat.lt_or_ge b (H (p + d)).length with h | h
          · refine ih (by omega) x ?_ hr
            rw [← hx]
            exact ((seg_mono' run s (i := p + d) (j := p + (d + 1)) (by omega) (by omega) hd).2.1 b h).symm
          · have := inv.nro (p + d) b x (by omega) (by omega) (hall (p + d) (by omega) (by omega)) h hx
            rw [hr] at this
            cases this
      obtain ⟨d, hd⟩ := Nat.le.dest s.le
      exact key d (by omega) x (by rw [hd]; exact hb) hr
    · have hk' := cutL_some.1 hk
      cases h0 : lm0 t with
      | none => exact .inl (inv.newL t k hk'.2 h0).1
      | some k0 =>
        have := inv.lext t k0 h0
        rw [hk'.2] at this
        injection this with this
        subst this
        refine .inr ⟨t, h0, ?_⟩
        rw [m3 t (base.l t k h0)] at hr
        exact hr

/-- A stretch begins. -/
theorem inv_start (run : RunOf P T ops q E L H V) (s : Seg ops q p z) (hs : SRel T ρ0 lm0 (E p) (L p) (H p) a w0) (hS : ∀ k, p ≤ k → S k = false) :
    Base T L H p ρ0 lm0 ∧ Inv T ops E L H V p z ρ0 lm0 w0 S ρ0 lm0 a w0 := by
  have hr : ∀ b pl, ρ0 b = some pl → b < (H p).length := fun b pl hb => let ⟨x, hx, _⟩ := hs.heap.blk b pl hb; (List.getElem?_eq_some_iff.1 hx).1
  have hl : ∀ t k, lm0 t = some k → (L p).getD t .none ≠ .none := fun t k hk h => by
    have := (hs.loc.loc t k hk).2
    rw [h] at this
    exact this
  refine ⟨⟨hr, hl, hs.glob⟩, ⟨fun _ _ h => h, fun _ _ h => h, fun b h h0 => absurd h0 h, fun t kk h h0 => (by rw [h] at h0; cases h0), fun b pl x h h0 => (by rw [h] at h0; cases h0), fun k b x k1 k2 k3 => (by rw [hS k k1] at k3; cases k3),
    fun j hj1 hj2 => ?_, hs.act.size, hs.act.defers, fun t v hv => ⟨fun k o k1 k2 k3 => (by rw [hS k k1] at k3; cases k3), fun _ => hs.act.val t v hv⟩, rfl, rfl, rfl, Nat.le_refl _, fun _ _ => rfl⟩⟩
  obtain ⟨m1, m2, m3⟩ := seg_mono' run s (i := p) (j := j) (by omega) hj1 hj2
  have e1 : cutR ρ0 (H j) = ρ0 := by
    funext b
    unfold cutR
    split
    · rfl
    · cases h : ρ0 b with
      | none => rfl
      | some pl => have := hr b pl h; omega
  have e2 : cutL lm0 (L j) = lm0 := by
    funext t
    unfold cutL
    split
    · rename_i hn
      cases h : lm0 t with
      | none => rfl
      | some k =>
        have h1 := hl t k h
        rw [LBlk.isNone_iff, m3 t h1] at hn
        exact absurd hn h1
    · rfl
  rw [e1, e2]
  refine ⟨⟨fun b pl hb => ?_, fun b b' pl pl' x x' hb hb' hx hx' => ?_⟩, ⟨fun t k hk => ?_, hs.loc.inj, fun t k b pl x hk hb hx => ?_⟩⟩
  · rw [m2 b (hr b pl hb)]; exact hs.heap.blk b pl hb
  · rw [m2 b (hr b pl hb)] at hx
    rw [m2 b' (hr b' pl' hb')] at hx'
    exact hs.heap.dis b b' pl pl' x x' hb hb' hx hx'
  · rw [m3 t (hl t k hk)]; exact hs.loc.loc t k hk
  · rw [m2 b (hr b pl hb)] at hx
    exact hs.loc.apart t k b pl x hk hb hx

theorem countP_lt {f g : Nat → Bool} (h : ∀ x, g x = true → f x = true) {i : Nat} (hf : f i = true) (hg : g i = false) : ∀ {l : List Nat}, i ∈ l → l.countP g < l.countP f
  | [], hm => by cases hm
  | x :: xs, hm => by
    have hle : ∀ l : List Nat, l.countP g ≤ l.countP f := fun l => List.countP_mono_left fun x _ => h x
    simp only [List.countP_cons]
    rcases List.mem_cons.1 hm with rfl | hm
    · rw [hf, hg]
      have := hle xs
      simp; omega
    · have := countP_lt h hf hg hm
      cases hgx : g x with
      | false => simp; omega
      | true => rw [h x hgx]; simp; omega

theorem next_bar (q : Nat → Bool) (p n : Nat) (h : p ≤ n) : ∃ z, p ≤ z ∧ z ≤ n ∧ (∀ j, p ≤ j → j < z → q j = true) ∧ (z < n → q z = false) := by
  obtain ⟨d, rfl⟩ := Nat.le.dest h
  clear h
  induction d generalizing p with
  | zero => exact ⟨p, by omega, by omega, fun j h1 h2 => by omega, fun h => by omega⟩
  | succ d ih =>
    cases hq : q p with
    | false => exact ⟨p, by omega, by omega, fun j h1 h2 => by omega, fun _ => hq⟩
    | true =>
      obtain ⟨z, h1, h2, h3, h4⟩ := ih (p + 1)
      refine ⟨z, by omega, by omega, fun j j1 j2 => ?_, fun h => h4 (by omega)⟩
      by_cases e : j = p
      · rw [e]; exact hq
      · exact h3 j (by omega) j2
theorem last_bar (q : Nat → Bool) (z : Nat) (hz : q z = false) : ∀ (d : Nat), ∃ b, z ≤ b ∧ b ≤ z + d ∧ q b = false ∧ ∀ m, b < m → m ≤ z + d → q m = true
  | 0 => ⟨z, by omega, by omega, hz, fun m h1 h2 => by omega⟩
  | d + 1 => by
    cases hq : q (z + (d + 1)) with
    | false => exact ⟨z + (d + 1), by omega, by omega, hq, fun m h1 h2 => by omega⟩
    | true =>
      obtain ⟨b, h1, h2, h3, h4⟩ := last_bar q z hz d
      refine ⟨b, h1, by omega, h3, fun m m1 m2 => ?_⟩
      by_cases e : m = z + (d + 1)
      · rw [e]; exact hq
      · exact h4 m m1 (by omega)

theorem edge_ready {listed : Array Bool} {o : Oper} (h : ∀ e ∈ o.after, Region.binds .any e = true → listed.getD e.on false = true) (m : Nat) (hm : hasEdge o m = true) : listed.getD m false = true := by
  unfold hasEdge at hm
  obtain ⟨e, he, hb⟩ := List.any_eq_true.1 hm
  simp only [Bool.and_eq_true, beq_iff_eq] at hb
  rw [← hb.2]
  exact h e (by simpa using he) hb.1

/-- ALL ORDERS. -/
theorem any_from {h : Nat} (run : RunOf P T ops q E L H V) (good : Good ops h q) {Q : Exit → Act → World → Prop} : ∀ (fuel : Nat) (listed : Array Bool) (p z : Nat) (ρ0 : Mp) (lm0 : Lp) (w0 : World) (ρ : Mp) (lm : Lp) (a : Act) (w : World),
    h ≤ p → listed.size = ops.size → Closed ops (fun k => listed.getD k false) → Seg ops q p z → (z < ops.size → q z = false) → (∀ k, k < p → listed.getD k false = true) → (∀ k, z ≤ k → listed.getD k false = false) →
    Base T L H p ρ0 lm0 → Inv T ops E L H V p z ρ0 lm0 w0 (fun k => listed.getD k false) ρ lm a w →
    (∀ ρ' lm' a' w', SRel T ρ' lm' (E ops.size) (L ops.size) (H ops.size) a' w' → Step ρ0 lm0 (L p) (H p) w0 ρ' lm' (L ops.size) (H ops.size) w' → Q .normal a' w') →
    (List.range ops.size).countP (fun k => !listed.getD k false) ≤ fuel → wpAny P .any ops Q fuel listed a w := by
  intro fuel
  have none_ready : ∀ (listed : Array Bool), listed.size = ops.size → (∀ k, k < h → listed.getD k false = true) → Region.ready .any ops listed = [] → ∀ k, k < ops.size → listed.getD k false = true := fun listed hsz hlo hr k => by
    induction k using Nat.strongRecOn with
    | _ k ih =>
      intro hk
      cases hl : listed.getD k false with
      | true => rfl
      | false =>
        have hhk : h ≤ k := by
          rcases Nat.lt_or_ge k h with h' | h'
          · rw [hlo k h'] at hl; cases hl
          · exact h'
        have : k ∈ Region.ready .any ops listed := mem_ready.2 ⟨by
          rw [Array.getD_eq_getD_getElem?, Array.getElem?_eq_getElem (by omega)] at hl ⊢
          exact hl, _, Array.getElem?_eq_getElem hk, fun e he hb => ih e.on (good.acyc k _ hhk (Array.getElem?_eq_getElem hk) e he hb) (by
            have := good.acyc k _ hhk (Array.getElem?_eq_getElem hk) e he hb
            omega)⟩
        rw [hr] at this
        cases this
  have finish : ∀ (listed : Array Bool) (p z : Nat) (ρ0 : Mp) (lm0 : Lp) (w0 : World) (ρ : Mp) (lm : Lp) (a : Act) (w : World), listed.size = ops.size → (∀ k, k < h → listed.getD k false = true) → Seg ops q p z → (∀ k, z ≤ k → listed.getD k false = false) →
      Base T L H p ρ0 lm0 → Inv T ops E L H V p z ρ0 lm0 w0 (fun k => listed.getD k false) ρ lm a w →
      (∀ ρ' lm' a' w', SRel T ρ' lm' (E ops.size) (L ops.size) (H ops.size) a' w' → Step ρ0 lm0 (L p) (H p) w0 ρ' lm' (L ops.size) (H ops.size) w' → Q .normal a' w') →
      Region.ready .any ops listed = [] → Q .normal a w := fun listed p z ρ0 lm0 w0 ρ lm a w hsz hlo' s hz base inv hQ hr => by
    have hall := none_ready listed hsz hlo' hr
    have : z = ops.size := by
      rcases Nat.lt_or_ge z ops.size with h | h
      · have := hall z h
        rw [hz z (Nat.le_refl _)] at this
        cases this
      · have := s.len; omega
    subst this
    obtain ⟨h1, h2⟩ := inv_done run s base inv fun k k1 k2 => hall k k2
    exact hQ _ _ _ _ h1 h2
  induction fuel with
  | zero =>
    intro listed p z ρ0 lm0 w0 ρ lm a w hhp hsz cl s hbar hlo hhi base inv hQ hf
    have hr : Region.ready .any ops listed = [] := by
      cases h : Region.ready .any ops listed with
      | nil => rfl
      | cons x xs =>
        have hx : x ∈ Region.ready .any ops listed := by rw [h]; simp
        obtain ⟨h1, o, ho, _⟩ := mem_ready.1 hx
        have hlt := (Array.getElem?_eq_some_iff.1 ho).1
        have : (fun k => !listed.getD k false) x = true := by
          simp only [Bool.not_eq_true']
          rw [Array.getD_eq_getD_getElem?, Array.getElem?_eq_getElem (by omega)] at h1 ⊢
          exact h1
        have := (List.countP_pos_iff (p := fun k => !listed.getD k false)).2 ⟨x, List.mem_range.2 hlt, this⟩
        omega
    exact ⟨hr, finish listed p z ρ0 lm0 w0 ρ lm a w hsz (fun k hk => hlo k (by omega)) s hhi base inv hQ hr⟩
  | succ fuel ih =>
    intro listed p z ρ0 lm0 w0 ρ lm a w hhp hsz cl s hbar hlo hhi base inv hQ hf
    refine ⟨finish listed p z ρ0 lm0 w0 ρ lm a w hsz (fun k hk => hlo k (by omega)) s hhi base inv hQ, fun i hi => ?_⟩
    obtain ⟨h1, o, ho, hall⟩ := mem_ready.1 hi
    have hlt := (Array.getElem?_eq_some_iff.1 ho).1
    have hun : listed.getD i false = false := by
      rw [Array.getD_eq_getD_getElem?, Array.getElem?_eq_getElem (by omega)] at h1 ⊢
      exact h1
    have hedge : ∀ m, hasEdge o m = true → listed.getD m false = true := edge_ready hall
    have hset : ∀ k, (listed.setIfInBounds i true).getD k false = (k == i || listed.getD k false) := fun k => by
      by_cases e : k = i
      · subst e; simp [hsz, hlt]
      · rw [getD_set_ne false (Ne.symm e)]; simp [e]
    have hsetf : (fun k => (listed.setIfInBounds i true).getD k false) = fun k => (k == i || listed.getD k false) := funext hset
    have hsz' : (listed.setIfInBounds i true).size = ops.size := by simp [hsz]
    have cl' : Closed ops (fun k => (listed.setIfInBounds i true).getD k false) := by
      rw [hsetf]
      intro k ok m hk hok hm
      simp only [Bool.or_eq_true, beq_iff_eq] at hk ⊢
      rcases hk with rfl | hk
      · rw [ho] at hok
        injection hok with hok
        subst hok
        exact .inr (hedge m hm)
      · exact .inr (cl k ok m hk hok hm)
    have hf' : (List.range ops.size).countP (fun k => !(listed.setIfInBounds i true).getD k false) ≤ fuel := by
      have := countP_lt (f := fun k => !listed.getD k false) (g := fun k => !(listed.setIfInBounds i true).getD k false) (i := i) (fun x hx => by
        simp only [Bool.not_eq_true'] at hx ⊢
        rw [hset] at hx
        simp only [Bool.or_eq_false_iff] at hx
        exact hx.2) (by simp only [hun]; rfl) (by simp [hset]) (List.mem_range.2 hlt)
      omega
    have hpi : p ≤ i := by
      rcases Nat.lt_or_ge i p with h | h
      · rw [hlo i h] at hun; cases hun
      · exact h
    rcases Nat.lt_or_ge i z with hiz | hiz
    · refine inv_step hhp run good s base inv cl ho hpi hiz hun hedge fun ρ' lm' a' w' hinv => ?_
      refine ih _ p z ρ0 lm0 w0 ρ' lm' a' w' hhp hsz' cl' s hbar (fun k hk => by rw [hset, hlo k hk, Bool.or_true]) (fun k hk => by rw [hset, hhi k hk]; simp; omega) base ?_ hQ hf'
      rw [hsetf]
      exact hinv
    · have hqz : q z = false := hbar (by omega)
      have hizz : i = z := by
        rcases Nat.lt_or_ge z i with h | h
        · obtain ⟨d, hd⟩ := Nat.le.dest (show z ≤ i - 1 by omega)
          obtain ⟨b, b1, b2, b3, b4⟩ := last_bar q z hqz d
          have := (good.bar b i o ho (by have := s.le; omega) (by omega) b3 fun m m1 m2 => b4 m m1 (by omega)).inS (S := fun k => listed.getD k false) ho cl hedge
          rw [hhi b b1] at this
          cases this
        · omega
      subst hizz
      have hallS : ∀ k, p ≤ k → k < i → listed.getD k false = true := fun k k1 k2 => (good.barAll i k o ho (by omega) hqz k2).inS (S := fun k => listed.getD k false) ho cl hedge
      obtain ⟨hs, hst⟩ := inv_done run s base inv hallS
      -- the next stretch
      obtain ⟨z', z1, z2, z3, z4⟩ := next_bar q (i + 1) ops.size hlt
      have s' : Seg ops q (i + 1) z' := ⟨z1, z2, z3⟩
      have go : ∀ ρ' lm' a' w', SRel T ρ' lm' (E (i + 1)) (L (i + 1)) (H (i + 1)) a' w' → Step ρ0 lm0 (L p) (H p) w0 ρ' lm' (L (i + 1)) (H (i + 1)) w' → wpAny P .any ops Q fuel (listed.setIfInBounds i true) a' w' := fun ρ' lm' a' w' hs' hst' => by
        obtain ⟨base', inv'⟩ := inv_start (S := fun k => (listed.setIfInBounds i true).getD k false) run s' hs' (fun k hk => by
          rw [hset, hhi k (by omega)]; simp; omega)
        refine ih _ (i + 1) z' ρ' lm' w' ρ' lm' a' w' (by omega) hsz' cl' s' z4 (fun k hk => ?_) (fun k hk => by rw [hset, hhi k (by omega)]; simp; omega) base' inv' (fun ρ'' lm'' a'' w'' t1 t2 => hQ ρ'' lm'' a'' w'' t1 (hst'.trans t2)) hf'
        rw [hset]
        by_cases e : k = i
        · simp [e]
        · rcases Nat.lt_or_ge k p with h | h
          · rw [hlo k h]; simp
          · rw [hallS k h (by omega)]; simp
      have st := run.step i o ho
      rw [hqz] at st
      have he := run.env i o ho
      unfold wpOp
      simp only [ho]
      rcases st with ⟨hw, h1⟩ | ⟨hw, hv, hL1, hH1⟩
      · rw [if_pos (wanted_true hw fun g want d hg hd he => by
          obtain ⟨u, e1, r1⟩ := hs.act.get (d := d) (by rw [he]; simp)
          rw [he] at r1
          simp only [VRel] at r1
          rw [e1, r1])]
        refine .inl (h1 _ _ a w hs.heap hs.loc hs.glob (fun x _ => ev_rel hs.act hs.glob x) _ _ fun cv w' ρ' lm' q1 q2 q3 q4 q5 => ?_)
        refine go ρ' lm' _ w' ⟨?_, q1, q2, fun g hg => let ⟨n, hn⟩ := hs.glob g hg; ⟨n, q4.ext _ _ hn⟩⟩ (hst.trans q4)
        rw [he]
        exact hs.act.put q4.ext q5.1 _ q3
      · rw [if_neg (by
          rw [wanted_false hw fun g want d hg hd x hx he => ?_]
          · simp
          · obtain ⟨u, e1, r1⟩ := hs.act.get (d := d) (by rw [he]; rcases hx with rfl | ⟨b, rfl⟩ <;> simp)
            refine ⟨u, e1, ?_⟩
            rw [he] at r1
            rcases hx with rfl | ⟨b, rfl⟩ <;> simpa [VRel] using r1)]
        refine go (cutR ρ (H i)) (cutL lm (L i)) _ w ⟨?_, ?_, ?_, hs.glob⟩ ?_
        · rw [he, hv]
          exact hs.act.put (fun _ _ h => h) (fun _ _ h => h) _ (by simp [VRel])
        · rw [hH1]; exact hs.heap
        · rw [hH1, hL1]; exact hs.loc
        · rw [hH1, hL1]; exact hst

/-- The values that are kept at the beginning. -/
theorem lead_take {listed : Array Bool} {i : Nat} {o : Oper} {x : Operand} {Q : Exit → Act → World → Prop} {fuel : Nat} (hs : Region.noSelect ops = true) (hi : ops[i]? = some o) (hop : o.op = .move x) (hg : o.guard = none)
    (hsz : listed.size = ops.size) (hun : listed.getD i false = false) (hpre : ∀ e ∈ o.after, Region.binds .any e = true → listed.getD e.on false = true)
    (hfree : ∀ (j : Nat) (oj : Oper), ops[j]? = some oj → listed.getD j false = false → j ≠ i → hasEdge oj i = true ∨ o.apart ops oj = true)
    (hQ : ∀ c a w, ¬ Q (.panic c) a w) (hk : wpAny P .any ops Q fuel (listed.setIfInBounds i true) (a.put o.dst (a.eval x)) w) : wpAny P .any ops Q (fuel + 1) listed a w := by
  have hlt := (Array.getElem?_eq_some_iff.1 hi).1
  have eqD : ∀ j, j < ops.size → listed.getD j true = listed.getD j false := fun j hj => by
    rw [Array.getD_eq_getD_getElem?, Array.getD_eq_getD_getElem?, Array.getElem?_eq_getElem (by omega)]; rfl
  refine wpAny_first hi (Region.noSelect_spec hs) (fun c a w h => absurd h (hQ c _ w)) fuel listed a w (fun j oj hj hne hl hno => ?_) (mem_ready.2 ⟨by rw [eqD i hlt]; exact hun, o, hi, hpre⟩) (.inl ⟨by simp [Region.wanted, hg], fun w => by simp [execOp, hop]⟩) hk
  rw [eqD j (Array.getElem?_eq_some_iff.1 hj).1] at hl
  rcases hfree j oj hj hl hne with h | h
  · unfold hasEdge at h
    obtain ⟨e, he, hb⟩ := List.any_eq_true.1 h
    simp only [Bool.and_eq_true, beq_iff_eq] at hb
    exact absurd hb.2 (hno e (by simpa using he) hb.1)
  · exact h

structure Lead (ops : Array Oper) (q : Nat → Bool) (h : Nat) : Prop where
  le : h ≤ ops.size
  sel : Region.noSelect ops = true
  each : ∀ (i : Nat) (o : Oper), i < h → ops[i]? = some o → q i = false ∧ o.guard = none ∧ (∃ x, o.op = .move x) ∧ (∀ e ∈ o.after, Region.binds .any e = true → e.on < i) ∧
    ∀ (j : Nat) (oj : Oper), i < j → ops[j]? = some oj → hasEdge oj i = true ∨ o.apart ops oj = true

theorem lead_sound (run : RunOf P T ops q E L H V) {h : Nat} (ld : Lead ops q h) {Q : Exit → Act → World → Prop} (hQ : ∀ c a w, ¬ Q (.panic c) a w)
    (fin : ∀ (listed : Array Bool) (ρ' : Mp) (lm' : Lp) (a' : Act) (w' : World), listed.size = ops.size → (∀ k, listed.getD k false = decide (k < h)) → SRel T ρ' lm' (E h) (L h) (H h) a' w' → Step ρ0 lm0 (L 0) (H 0) w0 ρ' lm' (L h) (H h) w' → wpAny P .any ops Q (ops.size - h) listed a' w') :
    ∀ (d i : Nat) (listed : Array Bool) (ρ : Mp) (lm : Lp) (a : Act) (w : World), i + d = h → listed.size = ops.size → (∀ k, listed.getD k false = decide (k < i)) → SRel T ρ lm (E i) (L i) (H i) a w → Step ρ0 lm0 (L 0) (H 0) w0 ρ lm (L i) (H i) w →
      wpAny P .any ops Q (ops.size - i) listed a w
  | 0, i, listed, ρ, lm, a, w, hd, hsz, hl, hs, hst => by
    obtain rfl : i = h := by omega
    exact fin listed ρ lm a w hsz hl hs hst
  | d + 1, i, listed, ρ, lm, a, w, hd, hsz, hl, hs, hst => by
    have hih : i < h := by omega
    have hlt : i < ops.size := Nat.lt_of_lt_of_le hih ld.le
    obtain ⟨o, ho⟩ : ∃ o, ops[i]? = some o := ⟨_, Array.getElem?_eq_getElem hlt⟩
    obtain ⟨hq, hg, ⟨x, hop⟩, hac, hfr⟩ := ld.each i o hih ho
    have e1 : ops.size - i = (ops.size - (i + 1)) + 1 := by omega
    rw [e1]
    have st := run.step i o ho
    rw [hq] at st
    have he := run.env i o ho
    have hst1 : ∃ ρ' lm', SRel T ρ' lm' (E (i + 1)) (L (i + 1)) (H (i + 1)) (a.put o.dst (a.eval x)) w ∧ Step ρ0 lm0 (L 0) (H 0) w0 ρ' lm' (L (i + 1)) (H (i + 1)) w := by
      rcases st with ⟨_, h1⟩ | ⟨hw, _⟩
      · have := h1 ρ lm a w hs.heap hs.loc hs.glob (fun x _ => ev_rel hs.act hs.glob x) (fun a' w' => ∃ ρ' lm', SRel T ρ' lm' (E (i + 1)) (L (i + 1)) (H (i + 1)) a' w' ∧ Step ρ0 lm0 (L 0) (H 0) w0 ρ' lm' (L (i + 1)) (H (i + 1)) w') (fun _ _ _ => False)
          (fun cv w' ρ' lm' q1 q2 q3 q4 q5 => ⟨ρ', lm', ⟨by rw [he]; exact hs.act.put q4.ext q5.1 _ q3, q1, q2, fun g hg => let ⟨n, hn⟩ := hs.glob g hg; ⟨n, q4.ext _ _ hn⟩⟩, hst.trans q4⟩)
        unfold Oper.wp at this
        have hrun : (execOp a.eval o).run P w = .ok (.value (a.eval x)) w := by simp [execOp, hop]
        rw [hrun] at this
        exact this
      · obtain ⟨g, want, hg', _⟩ := hw
        rw [hg] at hg'
        cases hg'
    obtain ⟨ρ', lm', s1, s2⟩ := hst1
    have hset : ∀ k, (listed.setIfInBounds i true).getD k false = decide (k < i + 1) := fun k => by
      by_cases e : k = i
      · subst e; simp [hsz, hlt]
      · rw [getD_set_ne false (Ne.symm e), hl]
        by_cases h1 : k < i
        · simp [h1]; omega
        · simp [h1]; omega
    refine lead_take ld.sel ho hop hg hsz (by rw [hl]; simp) (fun e he hb => by rw [hl]; simpa using hac e he hb) (fun j oj hj hl' hne => ?_) hQ
      (lead_sound run ld hQ fin d (i + 1) _ ρ' lm' _ w (by omega) (by simp [hsz]) hset s1 s2)
    rw [hl] at hl'
    simp only [decide_eq_false_iff_not] at hl'
    exact hfr j oj (by omega) hj

theorem region_draw (hm : P.follows .mixedOrders = true) {id : Nat} {Q : Exit → Act → World → Prop} {qs : List Bool} {h : Nat} (ld : Lead ops (fun j => qs.getD j false) h) (good : Good ops h (fun j => qs.getD j false)) {e : Env} {l : Locs} {σ : Heap} {e' : Env} {l' : Locs} {σ' : Heap}
    (ht : Trace P T ops ops.toList qs e l σ e' l' σ') (hs : SRel T ρ lm e l σ a w) (hQp : ∀ c a w, ¬ Q (.panic c) a w)
    (hq : ∀ ρ' lm' a' w', SRel T ρ' lm' e' l' σ' a' w' → Step ρ lm l σ w ρ' lm' l' σ' w' → Q .normal a' w') : (Code.region id ops true).wp P Q a w := by
  obtain ⟨E, L, H, V, rfl, rfl, rfl, rfl, rfl, rfl, hrun⟩ := ht.fns
  have run : RunOf P T ops (fun j => qs.getD j false) E L H V := ⟨fun j o hj => (hrun j o (by simpa using hj)).1, fun j o hj => (hrun j o (by simpa using hj)).2⟩
  refine wp_region_any hm ?_
  have hs' : SRel T ρ lm (E 0) (L 0) (H 0) a { w with drawn := w.drawn + 1 } := ⟨hs.act, hs.heap.grow (fun _ _ => rfl), hs.loc.grow (Nat.le_refl _) (fun _ _ => rfl), hs.glob⟩
  have hst : Step ρ lm (L 0) (H 0) w ρ lm (L 0) (H 0) { w with drawn := w.drawn + 1 } :=
    ⟨rfl, rfl, rfl, Nat.le_refl _, Nat.le_refl _, fun _ _ h => h, fun _ h h' => absurd h h', fun _ _ _ _ => rfl, fun b pl x h hx hr => .inr ⟨b, pl, x, h, hx, hr, rfl⟩, fun _ _ h _ => h, fun _ _ h _ => h, fun t k h h2 => .inr ⟨t, h, h2⟩⟩
  have hno : ∀ k, (Array.replicate ops.size false).getD k false = decide (k < 0) := fun k => by
    rw [Array.getD_eq_getD_getElem?, Array.getElem?_replicate]; split <;> simp
  have fin : ∀ (listed : Array Bool) (ρ' : Mp) (lm' : Lp) (a' : Act) (w' : World), listed.size = ops.size → (∀ k, listed.getD k false = decide (k < h)) → SRel T ρ' lm' (E h) (L h) (H h) a' w' → Step ρ lm (L 0) (H 0) w ρ' lm' (L h) (H h) w' → wpAny P .any ops Q (ops.size - h) listed a' w' := fun listed ρ1 lm1 a1 w1 hsz hl s1 s2 => by
    obtain ⟨z, z1, z2, z3, z4⟩ := next_bar (fun j => qs.getD j false) h ops.size ld.le
    have s : Seg ops (fun j => qs.getD j false) h z := ⟨z1, z2, z3⟩
    obtain ⟨base, inv⟩ := inv_start (S := fun k => listed.getD k false) run s s1 (fun k hk => by rw [hl]; simpa using hk)
    refine any_from run good (ops.size - h) listed h z ρ1 lm1 w1 ρ1 lm1 a1 w1 (Nat.le_refl _) hsz (fun k o m hk hok hmk => ?_) s z4 (fun k hk => by rw [hl]; simpa using hk) (fun k hk => by rw [hl]; simp; omega) base inv (fun ρ' lm' a' w' h1 h2 => hq ρ' lm' a' w' (by simpa using h1) (by simpa using s2.trans h2)) ?_
    · simp only [hl, decide_eq_true_eq] at hk ⊢
      unfold hasEdge at hmk
      obtain ⟨e, he, hb⟩ := List.any_eq_true.1 hmk
      simp only [Bool.and_eq_true, beq_iff_eq] at hb
      have := (ld.each k o hk hok).2.2.2.1 e (by simpa using he) hb.1
      omega
    · have e0 : (fun k => !listed.getD k false) = fun k => !decide (k < h) := by funext k; rw [hl]
      rw [e0]
      have : ∀ n, (List.range n).countP (fun k => !decide (k < h)) ≤ n - h := fun n => by
        induction n with
        | zero => simp
        | succ n ih =>
          rw [List.range_succ, List.countP_append]
          by_cases hn : n < h
          · have e1 : (List.range n).countP (fun k => !decide (k < h)) = 0 := by
              rw [List.countP_eq_zero]
              intro k hk
              have := List.mem_range.1 hk
              simp; omega
            rw [e1]
            simp [hn]
          · have e2 : List.countP (fun k => !decide (k < h)) [n] = 1 := by simp [List.countP_cons]; omega
            rw [e2]
            omega
      exact this _
  exact lead_sound (ρ0 := ρ) (lm0 := lm) (w0 := w) run ld hQp fin h 0 (Array.replicate ops.size false) ρ lm a _ (by omega) (by simp) hno hs' hst
end
end Go.Abs
