/-
A range over a map: whatever the order, the same comes of it.
Calls told by their code; calls that only read.
-/
import Derived.Test.YtnoplfndpemmpaaGreatDoorMAd
import Derived.Maps.RangeRun
namespace Go.Abs
open Go Go.MapKept
variable {ds : List Deferred}
section
variable {P : Program} {T : Tab}

theorem wpOps_part {mk : Oper → Bool} {ops : Array Oper} {Q : Exit → Act → World → Prop} (rest : List Oper) : ∀ (os : List Oper) (i : Nat) (_ : os ++ rest = ops.toList.drop i) {e : Env} {l : Locs} {σ : Heap} {e' : Env} {l' : Locs} {σ' : Heap} {ρ : Mp} {lm : Lp} {a : Act} {w : World},
    Trace P T mk ops os [] [] e l σ none e' l' σ' → SRel T ds ρ lm e l σ a w →
    (∀ ρ' lm' a' w', SRel T ds ρ' lm' e' l' σ' a' w' → Step ρ lm l σ w ρ' lm' l' σ' w' → wpOps P ops Q (List.range' (i + os.length) rest.length) a' w') → wpOps P ops Q (List.range' i (os ++ rest).length) a w
  | [], i, hos, e, l, σ, e', l', σ', ρ, lm, a, w, ht, hs, hq => by
    obtain ⟨rfl, rfl, rfl⟩ := ht
    exact hq ρ lm a w hs (Step.refl ..)
  | o :: os, i, hos, e, l, σ, e', l', σ', ρ, lm, a, w, ht, hs, hq => by
    obtain ⟨v, l1, σ1, l2, σ2, pd2, h1, h5, h2⟩ := ht
    simp only [List.headD_nil] at h1 h5
    rcases h5 with ⟨_, rfl, rfl, rfl⟩ | ⟨h5, _⟩
    case inr => cases h5
    have hi : ops[i]? = some o := by
      have := congrArg (fun q : List Oper => q[0]?) hos
      simp only [List.cons_append, List.getElem?_cons_zero, List.getElem?_drop, Nat.add_zero, Array.getElem?_toList] at this
      exact this.symm
    have hos' : os ++ rest = ops.toList.drop (i + 1) := by
      have := congrArg List.tail hos
      simpa [List.tail_drop] using this
    have hq' : ∀ ρ' lm' a' w', SRel T ds ρ' lm' e' l' σ' a' w' → Step ρ lm l σ w ρ' lm' l' σ' w' → wpOps P ops Q (List.range' (i + 1 + os.length) rest.length) a' w' := fun ρ' lm' a' w' s1 s2 => by
      have := hq ρ' lm' a' w' s1 s2
      rw [List.length_cons, show i + (os.length + 1) = i + 1 + os.length by omega] at this
      exact this
    simp only [List.cons_append, List.length_cons, List.range'_succ, wpOps, hi]
    rcases h1 with ⟨hw, h1⟩ | ⟨hw, rfl, rfl, rfl⟩
    · rw [if_pos (wanted_true hw fun g want d hg hd he => by
        obtain ⟨u, e1, r1⟩ := hs.act.get (d := d) (by rw [he]; simp)
        rw [he] at r1
        simp only [VRel] at r1
        rw [e1, r1])]
      refine .inl (h1 ρ lm a w hs.heap hs.loc hs.glob (fun x _ => ev_rel hs.act hs.glob x) _ _ fun cv w' ρ' lm' q1 q2 q3 q4 q5 => ?_)
      exact wpOps_part rest os (i + 1) hos' h2 ⟨hs.act.put q4.ext q5.1 _ q3, q1, q2, fun g hg => let ⟨t, ht⟩ := hs.glob g hg; ⟨t, q4.ext _ _ ht⟩⟩
        fun ρ'' lm'' a'' w'' s1 s2 => hq' ρ'' lm'' a'' w'' s1 (q4.trans s2)
    · rw [if_neg (by
        rw [wanted_false hw fun g want d hg hd x hx he => ?_]
        · simp
        · obtain ⟨u, e1, r1⟩ := hs.act.get (d := d) (by rw [he]; rcases hx with rfl | ⟨b, rfl⟩ <;> simp)
          refine ⟨u, e1, ?_⟩
          rw [he] at r1
          rcases hx with rfl | ⟨b, rfl⟩ <;> simpa [VRel] using r1)]
      exact wpOps_part rest os (i + 1) hos' h2 ⟨hs.act.put (fun _ _ h => h) (fun _ _ h => h) _ (by simp [VRel]), hs.heap, hs.loc, hs.glob⟩ hq'

/-- One operation by hand. -/
theorem wpOps_one {ops : Array Oper} {Q : Exit → Act → World → Prop} {i : Nat} {r : List Nat} {o : Oper} (hi : ops[i]? = some o) (hg : o.guard = none) {a : Act} {w w' : World} {v : Value} (hr : (execOp a.eval o).run P w = .ok (.value v) w') (h : wpOps P ops Q r (a.put o.dst v) w') :
    wpOps P ops Q (i :: r) a w := by
  simp only [wpOps, hi]
  rw [if_pos (by simp [Region.wanted, hg])]
  refine .inl ?_
  unfold Oper.wp
  rw [hr]
  exact h

/-- The shape of such a loop. -/
structure RLoop where
  (r2 r3 r4 x y it tm tn tb te : Nat)
  (t : TypeId)
  (pre os4 : List Oper)
  (oR oN oX oE : Oper)
  B : Code
def RLoop.body (L : RLoop) : Code := .seq (.region L.r3 #[L.oN, L.oX] false) (.seq (.cond (.tmp L.tb) .skip (.exit L.x)) (.block L.y (.seq (.region L.r4 (L.oE :: L.os4).toArray false) L.B)))
def RLoop.code (L : RLoop) : Code := .seq (.region L.r2 (L.pre ++ [L.oR]).toArray false) (.block L.x (.loop L.body))
structure RLoop.OK (L : RLoop) : Prop where
  hR : L.oR.op = .range L.t (.tmp L.tm) ∧ L.oR.dst = some L.it ∧ L.oR.guard = none
  hN : L.oN.op = .next (.tmp L.it) false ∧ L.oN.dst = some L.tn ∧ L.oN.guard = none
  hX : L.oX.op = .extract (.tmp L.tn) 0 ∧ L.oX.dst = some L.tb ∧ L.oX.guard = none
  hE : L.oE.op = .entry (.tmp L.it) ∧ L.oE.dst = some L.te ∧ L.oE.guard = none
  hd : L.it ≠ L.tn ∧ L.it ≠ L.tb ∧ L.tn ≠ L.tb

/-- Places among n, none twice. -/
def Some (n : Nat) (js : List Nat) : Prop := js.Nodup ∧ ∀ j ∈ js, j < n
/-- Less is told. -/
def EWeak (e e' : Env) : Prop := e'.length = e.length ∧ ∀ t, e'.getD t .undef = e.getD t .undef ∨ e'.getD t .undef = .undef
theorem EWeak.rel {e e' : Env} (h : EWeak e e') {ρ : Mp} {lm : Lp} {a : Act} (ha : ARel ds ρ lm e a) : ARel ds ρ lm e' a where
  size := by rw [h.1]; exact ha.size
  val := fun t v hv => by
    rcases h.2 t with h' | h'
    · rw [h']; exact ha.val t v hv
    · rw [h']; simp [VRel]
  defers := ha.defers

theorem born_mem {ms : Array MapEntry} {cl : Nat} (h : Stamped ms cl) {i j : Nat} {x y : MapEntry} (hi : ms[i]? = some x) (hj : ms[j]? = some y) (he : x.born = y.born) : i = j := by
  have hn := h.2.1
  have e1 : (ms.toList.map (·.born))[i]? = some x.born := by simp [hi]
  have e2 : (ms.toList.map (·.born))[j]? = some x.born := by simp [hj, he]
  have l1 : i < (ms.toList.map (·.born)).length := (List.getElem?_eq_some_iff.1 e1).1
  exact (List.getElem?_inj l1 hn).1 (e1.trans e2.symm)

theorem all_of_none {n : Nat} {js : List Nat} (h : Some n js) (ha : ∀ j, j < n → j ∈ js) : js.length = n := by
  have h1 : (List.range n).length ≤ js.length := (List.nodup_range (n := n)).length_le_of_subset fun j hj => ha j (List.mem_range.1 hj)
  have h2 : js.length ≤ (List.range n).length := h.1.length_le_of_subset fun j hj => List.mem_range.2 (h.2 j hj)
  rw [List.length_range] at h1 h2
  omega
def bornOf (ms : Array MapEntry) (j : Nat) : Nat := ((ms[j]?).map (·.born)).getD 0

/-- What is so of the world between two rounds. -/
structure WJ (ρ : Mp) (w : World) (bm bi k : Nat) (plm : Pl) (ms : Array MapEntry) (cl : Nat) (js : List Nat) : Prop where
  map : ρ bm = some plm
  itr : ρ bi = some ⟨k, 0, 0, 0⟩
  hk : w.heap[k]? = some (.mapIter (some plm.blk) cl (js.map (bornOf ms)).toArray cl)
  hm : w.heap[plm.blk]? = some (.map ms cl)
theorem not_at {ρ : Mp} {σ : Heap} {w : World} (hH : HRel ρ σ w) {k : Nat} {m : Option Nat} {a : Nat} {s : Array Nat} {t : Nat} (hk : w.heap[k]? = some (.mapIter m a s t)) {b : Nat} {pl : Pl} {x : Blk} (hb : ρ b = some pl) (hx : σ[b]? = some x) (hl : x.live = true) : pl.blk ≠ k := by
  obtain ⟨y, hy, hB⟩ := hH.blk b pl hb
  rw [hx] at hy
  injection hy with hy
  subst hy
  intro e
  subst e
  cases x with
  | row cs m =>
    cases m with
    | dead => simp [Blk.live] at hl
    | ro | rw => obtain ⟨c, ty, fr, h1, _⟩ := hB; rw [hk] at h1; cases h1
  | map es m =>
    cases m with
    | dead => simp [Blk.live] at hl
    | ro | rw => obtain ⟨es', cl, h1, _⟩ := hB; rw [hk] at h1; cases h1
  | tys b t sz => exact hB.elim

theorem setBlock_get (w : World) (k : Nat) (o : Obj) (i : Nat) : (ChangeMaps.setBlock w k o).heap[i]? = if k = i then (if k < w.heap.size then some o else none) else w.heap[i]? := by
  simp only [ChangeMaps.setBlock]
  rw [Array.getElem?_setIfInBounds]

/-- The iterator has gone on. -/
theorem iter_on {ρ : Mp} {lm : Lp} {l : Locs} {σ : Heap} {w w1 : World} {k : Nat} {m : Option Nat} {a : Nat} {s s' : Array Nat} {t t' : Nat} (hH : HRel ρ σ w) (hL : LRel ρ lm l σ w) (hnm : ∀ t b, l.getD t .none ≠ .miter b) (hk : w.heap[k]? = some (.mapIter m a s t)) (hw : w1 = w ∨ w1 = w.drew) :
    HRel ρ σ (ChangeMaps.setBlock w1 k (.mapIter m a s' t')) ∧ LRel ρ lm l σ (ChangeMaps.setBlock w1 k (.mapIter m a s' t')) := by
  have hh : w1.heap = w.heap := by rcases hw with rfl | rfl <;> rfl
  have hget : ∀ i, i ≠ k → (ChangeMaps.setBlock w1 k (.mapIter m a s' t')).heap[i]? = w.heap[i]? := fun i hi => by rw [setBlock_get, if_neg (Ne.symm hi), hh]
  have hsz : (ChangeMaps.setBlock w1 k (.mapIter m a s' t')).heap.size = w.heap.size := by simp [ChangeMaps.setBlock, hh]
  refine ⟨⟨fun b pl hb => ?_, hH.dis, hH.tys⟩, ⟨fun t0 k0 hk0 => ?_, hL.inj, hL.apart⟩⟩
  · obtain ⟨x, hx, hB⟩ := hH.blk b pl hb
    exact ⟨x, hx, hB.mono (fun _ _ h => h) fun hl => hget _ (not_at hH hk hb hx hl)⟩
  · obtain ⟨h1, h2⟩ := hL.loc t0 k0 hk0
    refine ⟨by rw [hsz]; exact h1, ?_⟩
    by_cases e : k0 = k
    · subst e
      have hn := hnm t0
      cases hx : l.getD t0 .none with
      | hid => trivial
      | miter b => exact absurd hx (hn b)
      | none => rw [hx] at h2; exact h2.elim
      | cells cs => rw [hx] at h2; obtain ⟨c, ty, fr, g, _⟩ := h2; rw [hk] at g; cases g
      | fcells cs => rw [hx] at h2; obtain ⟨c, ty, fr, g, _⟩ := h2; rw [hk] at g; cases g
      | iter s p => rw [hx] at h2; simp only [LOne] at h2; rw [hk] at h2; cases h2
      | fiter s p => rw [hx] at h2; simp only [LOne] at h2; rw [hk] at h2; cases h2
    · exact h2.mono (fun _ _ h => h) (hget k0 e)
theorem Step.iter {ρ ρ' : Mp} {lm lm' : Lp} {l l' : Locs} {σ σ' : Heap} {w w' w1 : World} (h : Step ρ lm l σ w ρ' lm' l' σ' w') {k : Nat} {o : Obj} (hk : w.heap.size ≤ k) (hw : w1 = w' ∨ w1 = w'.drew) : Step ρ lm l σ w ρ' lm' l' σ' (ChangeMaps.setBlock w1 k o) := by
  have hh : w1.heap = w'.heap := by rcases hw with rfl | rfl <;> rfl
  refine ⟨?_, ?_, ?_, ?_, h.len, h.ext, h.new, fun i hi h1 h2 => ?_, h.prov, h.ro, h.rob, h.lprov⟩
  · rw [← h.os]; rcases hw with rfl | rfl <;> rfl
  · rw [← h.tape]; rcases hw with rfl | rfl <;> rfl
  · rw [← h.output]; rcases hw with rfl | rfl <;> rfl
  · simp only [ChangeMaps.setBlock, Array.size_setIfInBounds, hh]; exact h.size
  · rw [setBlock_get, if_neg (by omega), hh]; exact h.unch i hi h1 h2
theorem WJ.step {ρ ρ' : Mp} {lm lm' : Lp} {l l' : Locs} {σ σ' : Heap} {w w' : World} {bm bi k : Nat} {plm : Pl} {ms : Array MapEntry} {cl : Nat} {js : List Nat} {es : List (AVal × AVal)} (h : WJ ρ w bm bi k plm ms cl js) (hH : HRel ρ σ w) (hL : LRel ρ lm l σ w) (hnm : ∀ t b, l.getD t .none ≠ .miter b) (hb : σ[bm]? = some (.map es .ro))
    (st : Step ρ lm l σ w ρ' lm' l' σ' w') : WJ ρ' w' bm bi k plm ms cl js where
  map := st.ext _ _ h.map
  itr := st.ext _ _ h.itr
  hk := by
    rw [st.unch k (Array.getElem?_eq_some_iff.1 h.hk).1 (fun b pl x hb hx hr => not_at hH h.hk hb hx (Blk.live_of_isRW hr)) (fun t ht => ?_)]
    · exact h.hk
    · obtain ⟨_, h2⟩ := hL.loc t k ht
      cases hx : l.getD t .none with
      | hid => rfl
      | miter b => exact absurd hx (hnm t b)
      | none => rw [hx] at h2; exact h2.elim
      | cells cs => rw [hx] at h2; obtain ⟨c, ty, fr, g, _⟩ := h2; rw [h.hk] at g; cases g
      | fcells cs => rfl
      | iter s p => rw [hx] at h2; simp only [LOne] at h2; rw [h.hk] at h2; cases h2
      | fiter s p => rfl
  hm := by
    rw [st.unch plm.blk (Array.getElem?_eq_some_iff.1 h.hm).1 (fun b pl x hb' hx hr => ?_) (fun t ht => absurd rfl (hL.apart t _ bm plm _ ht h.map hb rfl))]
    · exact h.hm
    · by_cases e : b = bm
      · subst e; rw [hb] at hx; injection hx with hx; subst hx; cases hr
      · exact hH.dis b bm pl plm x _ hb' h.map hx hb e (Blk.live_of_isRW hr) rfl hr

theorem range_rule {mk : Oper → Bool} (ok : TabOK P T) (L : RLoop) (LO : L.OK) (ht : ∃ i kt et, T.ti L.t = some i ∧ i.kind = .map kt et) {e e1 : Env} {l : Locs} {σ : Heap} {bm : Nat} {es : List (AVal × AVal)} (E : List Nat → Env) (H : List Nat → Heap) {Ef : Env} {Hf : Heap}
    (h1 : Trace P T mk (L.pre ++ [L.oR]).toArray L.pre [] [] e l σ none e1 l σ) (hm : e1.getD L.tm .undef = .map (some bm)) (hnm : ∀ t b, l.getD t .none ≠ .miter b) (hb : ∀ js, Some es.length js → (H js)[bm]? = some (.map es .ro))
    (hσ : σ[bm]? = some (.map es .ro)) (h0 : EWeak (e1.set L.it (.ptr (some (σ.length, 0)))) (E [])) (hH0 : H [] = σ ++ [.row [] .dead])
    (hit : ∀ js, Some es.length js → (E js).getD L.it .undef = .ptr (some (σ.length, 0)))
    (hlen : ∀ js, Some es.length js → L.it < (E js).length ∧ L.tn < (E js).length ∧ L.tb < (E js).length ∧ L.te < (E js).length) 
    (step : ∀ js j k v, Some es.length (js ++ [j]) → es[j]? = some (k, v) → ∃ e2 e3, Trace P T mk (L.oE :: L.os4).toArray L.os4 [] [] ((((E js).set L.tn (.tuple [.bool true, k, v])).set L.tb (.bool true)).set L.te (.tuple [k, v])) l (H js) none e2 l (H js) ∧
      CodeOK P T L.B e2 l (H js) .normal e3 l (H (js ++ [j])) ∧ EWeak e3 (E (js ++ [j])))
    (fin : ∀ js, Some es.length js → js.length = es.length → E js = Ef ∧ H js = Hf) :
    CodeOK P T L.code e l σ .normal ((Ef.set L.tn (.tuple [.bool false])).set L.tb (.bool false)) l Hf := by
  intro ds ρ lm a w hs
  obtain ⟨i, kt, et, hi, hk⟩ := ht
  obtain ⟨inf, d, z, ti⟩ := ok.tis hi
  obtain ⟨rfl, _, _⟩ := ti.mapK hk
  unfold RLoop.code
  refine wp_seq (wp_region ?_)
  rw [List.range_eq_range']
  have hsz : (L.pre ++ [L.oR]).toArray.size = (L.pre ++ [L.oR]).length := by simp
  rw [hsz]
  refine wpOps_part (P := P) [L.oR] L.pre 0 (by simp) h1 hs fun ρ1 lm1 a1 w1 s1 st1 => ?_
  have hv := ev_rel s1.act s1.glob (.tmp L.tm)
  rw [show ev T e1 (.tmp L.tm) = .map (some bm) from hm] at hv
  rcases entries_rel s1.heap hv (show σ.entries (some bm) = some es by simp [Heap.entries, hσ]) with ⟨hn, _⟩ | ⟨b', plm, m, ms, cl, hb', hp, _, _, hvv, hw, hst, hM⟩
  · cases hn
  injection hb' with hb'
  subst hb'
  obtain ⟨q1, q2, q3⟩ := new_block (w' := w1.alloc (.mapIter (some plm.blk) cl #[] cl)) s1.heap s1.loc (.mapIter (some plm.blk) cl #[] cl) (.row [] .dead) 0 0 rfl rfl rfl rfl trivial rfl
  obtain ⟨r1, r2, r3⟩ := LO.hR
  refine wpOps_one (i := 0 + L.pre.length) (o := L.oR) (by simp) r3 (w' := w1.alloc (.mapIter (some plm.blk) cl #[] cl)) (v := .pointer (some ⟨w1.heap.size, 0, none⟩)) ?_ ?_
  · simp only [execOp, r1, hvv, Instr.range, Sem.run_bind, ti.run_underlying, Result.andThen_ok, Sem.run_pure, run_newObj, MapKept.run_getObj_map hw]
    rfl
  have hes : ms.size = es.length := by have := hM.1; simpa using this
  have hk1 : w.heap.size ≤ w1.heap.size := st1.size
  have hvp : VRel (upd ρ1 σ.length ⟨w1.heap.size, 0, 0, 0⟩) lm1 (.ptr (some (σ.length, 0))) (.pointer (some ⟨w1.heap.size, 0, none⟩)) := by
    simp only [VRel]
    exact ⟨_, upd_same _ _ _, rfl⟩
  have s2 : SRel T ds (upd ρ1 σ.length ⟨w1.heap.size, 0, 0, 0⟩) lm1 (E []) l (H []) (a1.put L.oR.dst (.pointer (some ⟨w1.heap.size, 0, none⟩))) (w1.alloc (.mapIter (some plm.blk) cl #[] cl)) := by
    rw [hH0]
    refine ⟨h0.rel ?_, q1, q2, fun g hg => (let ⟨t, ht⟩ := s1.glob g hg; ⟨t, q3.ext _ _ ht⟩)⟩
    have := s1.act.put q3.ext (fun _ _ h => h) L.oR.dst hvp
    rw [r2] at this ⊢
    exact this
  show Exit.then _ _ .normal _ _
  simp only [Exit.then]
  refine wp_block ?_
  have J0 : WJ (upd ρ1 σ.length ⟨w1.heap.size, 0, 0, 0⟩) (w1.alloc (.mapIter (some plm.blk) cl #[] cl)) bm σ.length w1.heap.size plm ms cl [] :=
    ⟨q3.ext _ _ hp, upd_same _ _ _, alloc_get w1 _, (heap_alloc_old w1 _ (Array.getElem?_eq_some_iff.1 hw).1).trans hw⟩
  refine wp_loop_n (fun n a2 w2 => ∃ js, Some es.length js ∧ n = es.length - js.length ∧ ∃ ρ2 lm2, SRel T ds ρ2 lm2 (E js) l (H js) a2 w2 ∧ Step ρ lm l σ w ρ2 lm2 l (H js) w2 ∧ WJ ρ2 w2 bm σ.length w1.heap.size plm ms cl js)
    ⟨[], ⟨List.nodup_nil, by simp⟩, rfl, _, _, s2, by rw [hH0]; exact st1.trans q3, J0⟩ ?_
  intro n a2 w2 ⟨js, hjs, hn, ρ2, lm2, s3, st3, J⟩
  obtain ⟨l1, l2, l3, l4⟩ := hlen js hjs
  have hvi := ev_rel s3.act s3.glob (.tmp L.it)
  rw [show ev T (E js) (.tmp L.it) = .ptr (some (σ.length, 0)) from hit js hjs] at hvi
  obtain ⟨pli, hpi, hvi⟩ := by simpa only [VRel] using hvi
  rw [J.itr] at hpi
  injection hpi with hpi
  subst hpi
  have hvi : a2.eval (.tmp L.it) = .pointer (some ⟨w1.heap.size, 0, none⟩) := hvi
  obtain ⟨n1, n2, n3⟩ := LO.hN
  obtain ⟨x1, x2, x3⟩ := LO.hX
  obtain ⟨y1, y2, y3⟩ := LO.hE
  obtain ⟨d1, d2, d3⟩ := LO.hd
  -- the map, in this round's words
  have hvm : VRel ρ2 lm2 (.map (some bm)) (.map (some plm.blk)) := by simp only [VRel]; exact ⟨plm, J.map, rfl⟩
  have hM2 : MRel ρ2 es ms.toList := by
    rcases entries_rel s3.heap hvm (show (H js).entries (some bm) = some es by simp [Heap.entries, hb js hjs]) with ⟨hn, _⟩ | ⟨b', plm', m', ms', cl', hb', hp', _, _, _, hw', _, hM'⟩
    · cases hn
    injection hb' with hb'
    subst hb'
    rw [J.map] at hp'
    injection hp' with hp'
    subst hp'
    rw [J.hm] at hw'
    injection hw' with hw'
    injection hw' with hw' _
    subst hw'
    exact hM'
  unfold RLoop.body
  refine wp_seq (wp_region ?_)
  show wpOps P #[L.oN, L.oX] _ [0, 1] a2 w2
  have hl : L.tn < a2.tmps.size ∧ L.tb < a2.tmps.size := by rw [s3.act.size]; exact ⟨l2, l3⟩
  have getput : ∀ (v : Value), (a2.put (some L.tn) v).eval (.tmp L.tn) = v := fun v => by
    simp [Act.put, Act.eval, Array.getD, hl.1]
  rcases run_next_at (P := P) w2 L.oN.type w1.heap.size plm.blk cl cl (js.map (bornOf ms)).toArray ms cl J.hk J.hm (fun x hx => hst.1 x hx) (Nat.le_refl _) with ⟨hz, hrun⟩ | ⟨en, hen, w3, hw3, hrun⟩
  · -- nothing is left
    refine wpOps_one (i := 0) (o := L.oN) rfl n3 (v := .tuple #[.bool false]) (w' := w2) ?_ ?_
    · simp only [execOp, n1, hvi, Sem.run_bind, hrun, Result.andThen_ok, Sem.run_pure]
    rw [n2]
    refine wpOps_one (i := 1) (o := L.oX) rfl x3 (v := .bool false) (w' := w2) ?_ ?_
    · simp [execOp, x1, getput, Instr.extract]
    rw [x2]
    show Exit.then _ _ .normal _ _
    simp only [Exit.then]
    have hall : js.length = es.length := all_of_none hjs fun j hj => by
      have hz' : (ms.filter fun e => !(js.map (bornOf ms)).toArray.contains e.born) = #[] := Array.eq_empty_of_size_eq_zero hz
      rw [Array.filter_eq_empty_iff] at hz'
      have hjm : j < ms.size := by omega
      have := hz' ms[j] (Array.getElem_mem hjm)
      simp only [Bool.not_eq_true', Array.contains_eq_mem, List.mem_toArray, decide_eq_false_iff_not, Classical.not_not, List.mem_map] at this
      obtain ⟨j', hj', he⟩ := this
      have hj'm : j' < ms.size := by have := hjs.2 j' hj'; omega
      have : j' = j := born_mem hst (x := ms[j']) (y := ms[j]) (by simp [hj'm]) (by simp [hjm]) (by simpa [bornOf, hj'm] using he)
      exact this ▸ hj'
    obtain ⟨f1, f2⟩ := fin js hjs hall
    have hev : ((a2.put (some L.tn) (.tuple #[.bool false])).put (some L.tb) (.bool false)).eval (.tmp L.tb) = .bool false := by
      simp [Act.put, Act.eval, Array.getD, hl.2]
    have sF : SRel T ds ρ2 lm2 ((Ef.set L.tn (.tuple [.bool false])).set L.tb (.bool false)) l Hf ((a2.put (some L.tn) (.tuple #[.bool false])).put (some L.tb) (.bool false)) w2 := by
      rw [← f1, ← f2]
      refine ⟨(s3.act.put (fun _ _ h => h) (fun _ _ h => h) (some L.tn) (v := .tuple [.bool false]) ?_).put (fun _ _ h => h) (fun _ _ h => h) (some L.tb) (v := .bool false) ?_, s3.heap, s3.loc, s3.glob⟩
      · simp only [VRel, VRels]; exact ⟨_, rfl, _, _, rfl, rfl, rfl⟩
      · simp only [VRel]
    refine wp_seq (wp_cond_false hev (wp_exit ?_))
    show Exit.then _ _ (.exit L.x) _ _
    simp only [Exit.then, Exit.inBlock, if_true]
    rw [f2] at st3
    exact ⟨rfl, ρ2, lm2, sF, st3⟩
  · -- an entry comes
    have hen' : en ∈ ms ∧ ∀ j ∈ js, bornOf ms j ≠ en.born := by
      have : en ∈ (ms.filter fun e => !(js.map (bornOf ms)).toArray.contains e.born).toList := hen
      simp only [Array.mem_toList_iff, Array.mem_filter, Bool.not_eq_true', Array.contains_eq_mem, List.mem_toArray, decide_eq_false_iff_not, List.mem_map, not_exists, not_and] at this
      exact ⟨this.1, fun j hj => this.2 j hj⟩
    obtain ⟨j, hjm, hje⟩ := Array.getElem_of_mem hen'.1
    have hjs' : ms[j]? = some en := by rw [Array.getElem?_eq_getElem hjm, hje]
    have hjb : bornOf ms j = en.born := by simp [bornOf, hjs']
    have hjn : j ∉ js := fun h => hen'.2 j h hjb
    have hje' : j < es.length := by omega
    have hsome : Some es.length (js ++ [j]) := ⟨by
      rw [List.nodup_append]
      exact ⟨hjs.1, by simp, fun a ha b hb => by simp at hb; subst hb; exact fun h => hjn (h ▸ ha)⟩, fun i hi => by
      rcases List.mem_append.1 hi with h | h
      · exact hjs.2 i h
      · simp at h; omega⟩
    obtain ⟨⟨kk, vv⟩, hkv⟩ : ∃ p, es[j]? = some p := ⟨es[j], List.getElem?_eq_getElem hje'⟩
    obtain ⟨me, g1, g2, g3⟩ := hM2.2 j kk vv hkv
    rw [Array.getElem?_toList, hjs'] at g1
    injection g1 with g1
    subst g1
    obtain ⟨e2, e3, t1, t2, t3⟩ := step js j kk vv hsome hkv
    have hk3 : ∀ i : Nat, w3.heap[i]? = w2.heap[i]? := fun i => by rcases hw3 with rfl | rfl <;> rfl
    obtain ⟨u1, u2⟩ := iter_on (s' := (js.map (bornOf ms)).toArray.push en.born) (t' := cl) s3.heap s3.loc hnm J.hk hw3
    have st4 := st3.iter (k := w1.heap.size) (o := .mapIter (some plm.blk) cl ((js.map (bornOf ms)).toArray.push en.born) cl) hk1 hw3
    have hseen : (js.map (bornOf ms)).toArray.push en.born = ((js ++ [j]).map (bornOf ms)).toArray := by
      apply Array.ext'
      simp [hjb]
    have hklt : w1.heap.size < w2.heap.size := (Array.getElem?_eq_some_iff.1 J.hk).1
    have hklt3 : w1.heap.size < w3.heap.size := by rcases hw3 with rfl | rfl <;> exact hklt
    have hkm : plm.blk ≠ w1.heap.size := not_at s3.heap J.hk J.map (hb js hjs) rfl
    have J1 : WJ ρ2 (ChangeMaps.setBlock w3 w1.heap.size (.mapIter (some plm.blk) cl ((js.map (bornOf ms)).toArray.push en.born) cl)) bm σ.length w1.heap.size plm ms cl (js ++ [j]) :=
      ⟨J.map, J.itr, by rw [setBlock_get, if_pos rfl, if_pos hklt3, hseen], by rw [setBlock_get, if_neg (Ne.symm hkm), hk3]; exact J.hm⟩
    have vk : VRel ρ2 lm2 kk en.key := g2.any lm2
    have vv' : VRel ρ2 lm2 vv en.val := g3.any lm2
    refine wpOps_one (i := 0) (o := L.oN) rfl n3 (v := .tuple #[.bool true, en.key, en.val]) (w' := ChangeMaps.setBlock w3 w1.heap.size (.mapIter (some plm.blk) cl ((js.map (bornOf ms)).toArray.push en.born) cl)) ?_ ?_
    · simp only [execOp, n1, hvi, Sem.run_bind, hrun, Result.andThen_ok, Sem.run_pure]
    rw [n2]
    refine wpOps_one (i := 1) (o := L.oX) rfl x3 (v := .bool true) (w' := ChangeMaps.setBlock w3 w1.heap.size (.mapIter (some plm.blk) cl ((js.map (bornOf ms)).toArray.push en.born) cl)) ?_ ?_
    · simp [execOp, x1, getput, Instr.extract]
    rw [x2]
    show Exit.then _ _ .normal _ _
    simp only [Exit.then]
    have hev : ((a2.put (some L.tn) (.tuple #[.bool true, en.key, en.val])).put (some L.tb) (.bool true)).eval (.tmp L.tb) = .bool true := by
      simp [Act.put, Act.eval, Array.getD, hl.2]
    have hevi : ((a2.put (some L.tn) (.tuple #[.bool true, en.key, en.val])).put (some L.tb) (.bool true)).eval (.tmp L.it) = .pointer (some ⟨w1.heap.size, 0, none⟩) := by
      rw [← hvi]
      simp only [Act.put, Act.eval, Array.getD_eq_getD_getElem?, Array.getElem?_setIfInBounds]
      rw [if_neg (Ne.symm d2), if_neg (Ne.symm d1)]
    refine wp_seq (wp_cond_true hev (wp_skip ?_))
    show Exit.then _ _ .normal _ _
    simp only [Exit.then]
    refine wp_block (wp_seq (wp_region ?_))
    rw [List.range_eq_range', show (L.oE :: L.os4).toArray.size = L.os4.length + 1 by simp, List.range'_succ]
    refine wpOps_one (i := 0) (o := L.oE) (by simp) y3 (v := .tuple #[en.key, en.val]) (w' := ChangeMaps.setBlock w3 w1.heap.size (.mapIter (some plm.blk) cl ((js.map (bornOf ms)).toArray.push en.born) cl)) ?_ ?_
    · have := run_entry_at (P := P) (ChangeMaps.setBlock w3 w1.heap.size (.mapIter (some plm.blk) cl ((js.map (bornOf ms)).toArray.push en.born) cl)) w1.heap.size plm.blk cl (js.map (bornOf ms)).toArray ms cl en
        (by rw [setBlock_get, if_pos rfl, if_pos hklt3]) (by rw [setBlock_get, if_neg (Ne.symm hkm), hk3]; exact J.hm) (Array.mem_toList_iff.2 hen'.1) hst.2.1
      simp only [execOp, y1, hevi, Sem.run_bind, this, Result.andThen_ok, Sem.run_pure]
    rw [y2]
    have s4 : SRel T ds ρ2 lm2 ((((E js).set L.tn (.tuple [.bool true, kk, vv])).set L.tb (.bool true)).set L.te (.tuple [kk, vv])) l (H js) (((a2.put (some L.tn) (.tuple #[.bool true, en.key, en.val])).put (some L.tb) (.bool true)).put (some L.te) (.tuple #[en.key, en.val])) (ChangeMaps.setBlock w3 w1.heap.size (.mapIter (some plm.blk) cl ((js.map (bornOf ms)).toArray.push en.born) cl)) := by
      refine ⟨((s3.act.put (fun _ _ h => h) (fun _ _ h => h) (some L.tn) (v := .tuple [.bool true, kk, vv]) ?_).put (fun _ _ h => h) (fun _ _ h => h) (some L.tb) (v := .bool true) ?_).put (fun _ _ h => h) (fun _ _ h => h) (some L.te) (v := .tuple [kk, vv]) ?_, u1, u2, s3.glob⟩
      · simp only [VRel, VRels]; exact ⟨_, rfl, _, _, rfl, rfl, _, _, rfl, vk, _, _, rfl, vv', rfl⟩
      · simp only [VRel]
      · simp only [VRel, VRels]; exact ⟨_, rfl, _, _, rfl, vk, _, _, rfl, vv', rfl⟩
    refine wpOps_seq L.os4 1 (by simp) t1 s4 fun ρ5 lm5 a5 w5 s5 st5 => ?_
    show Exit.then _ _ .normal _ _
    simp only [Exit.then]
    have J5 := J1.step u1 u2 hnm (hb js hjs) st5
    refine wp_mono (t2 ds ρ5 lm5 a5 w5 s5) fun ex a6 w6 hq => ?_
    obtain ⟨rfl, ρ6, lm6, s6, st6⟩ := hq
    have J6 := J5.step s5.heap s5.loc hnm (hb js hjs) st6
    show ∃ j, _
    exact ⟨es.length - (js ++ [j]).length, by rw [hn, List.length_append, List.length_singleton]; have := hjs.1.length_le_of_subset (l₂ := List.range es.length) (fun i hi => List.mem_range.2 (hjs.2 i hi)); have h7 := hsome.1.length_le_of_subset (l₂ := List.range es.length) (fun i hi => List.mem_range.2 (hsome.2 i hi)); simp at this h7; omega,
      js ++ [j], hsome, rfl, ρ6, lm6, ⟨t3.rel s6.act, s6.heap, s6.loc, s6.glob⟩, (st4.trans st5).trans st6, J6⟩
end
end Go.Abs
namespace Go.Abs
open Go Go.RowKit
variable {ds : List Deferred}
variable {P : Program} {T : Tab}

theorem call_code (ok : TabOK P T) {g : FuncId} {fn : Func} {c : Code} (hfn : T.fn g = some fn) (hcb : fn.body = some c) {xs : List AVal} {σ σ' : Heap} {x : Ex} {e' : Env} {l' : Locs} {v : AVal}
    (h2 : CodeOK P T c (xs ++ List.replicate (fn.ntmps - xs.length) .undef) (List.replicate fn.ntmps .none) σ x e' l' σ') (hx : x = .normal ∨ x = .ret)
    (hk : resultsC T e' l' σ' fn.results.toList (fun vs => some vs) = some [v]) : CallOK P T g xs σ v σ' := by
  obtain ⟨f1, f2⟩ := ok.fn g fn hfn
  obtain ⟨vs, r1, r2⟩ := resultsC_sound ok hk
  injection r1 with r1
  subst r1
  intro ρ ws w hH hG hws
  have hlen := hws.length
  refine calls_of_wp f1 hcb ?_
  have hS : SRel T [] ρ noL (xs ++ List.replicate (fn.ntmps - xs.length) .undef) (List.replicate fn.ntmps .none) σ { tmps := ws.toArray ++ Array.replicate (fn.ntmps - ws.toArray.size) undef, defers := [] } w := by
    refine ⟨⟨by simp; omega, fun t v hv => ?_, rfl⟩, hH, ⟨fun t k hk => (by cases hk), fun t t' k hk => (by cases hk), fun t k b pl x hk => (by cases hk)⟩, hG⟩
    simp only [List.getD]
    by_cases ht : t < xs.length
    · rw [List.getElem?_append_left ht]
      obtain ⟨u, e1, r1⟩ := hws.get t xs[t] (by simp [ht])
      rw [Array.getElem?_append_left (by simp; omega)] at hv
      simp only [List.getElem?_toArray] at hv
      rw [e1] at hv
      injection hv with hv
      subst hv
      simpa [ht] using r1
    · rw [List.getElem?_append_right (by omega), List.getElem?_replicate]
      split <;> simp [VRel]
  refine wp_mono (h2 [] ρ noL _ w hS) fun ex a' w' hq => ?_
  obtain ⟨rfl, ρ', lm', s1, s2⟩ := hq
  obtain ⟨us, u1, u2⟩ := r2 [] ρ' lm' a' w' s1
  simp only [VRels] at u2
  obtain ⟨u, us', rfl, h1, rfl⟩ := u2
  have post : bodyPost P fn (fun e w' => ∃ cv ρ', e = .returned cv ∧ HRel ρ' σ' w' ∧ VRel ρ' noL v cv ∧ Step ρ noL [] σ w ρ' noL [] σ' w') .ret a' w' :=
    ⟨s1.act.defers, _, run_results u1, _, ρ', rfl, s1.heap, h1, ⟨s2.os, s2.tape, s2.output, s2.size, s2.len, s2.ext, s2.new, fun k hk h1 _ => s2.unch k hk h1 (fun t h => by cases h), s2.prov, s2.ro, s2.rob, fun t k h => by cases h⟩⟩
  rcases hx with rfl | rfl
  · exact post
  · exact post

/-- A call that does what it does on memory that can be read alone, and answers what leads nowhere. -/
theorem call_reads {f : FuncId} {xs : List AVal} {σ σ' : Heap} {v : AVal} (h : CallOK P T f xs σ.frz v σ') (hv : v.flat = true) : CallOK P T f xs σ v σ := by
  refine call_below fun ρ ws w hH hG hw => ?_
  refine (h ρ ws w hH.frz hG hw).mono fun e w' ⟨cv, ρ', he, _, q3, q4⟩ => ?_
  refine ⟨cv, he, AVal.refs_rel (p := fun _ => False) (fun b pl hp => hp.elim) (flat_refs hv) q3, ?_⟩
  exact ⟨q4.os, q4.tape, q4.output, q4.size, fun k hk => q4.unch k hk (fun b pl x hb hx hr => by
    rw [Heap.frz_get] at hx
    obtain ⟨y, _, rfl⟩ := Option.map_eq_some_iff.1 hx
    rw [Blk.frz_isRW] at hr
    cases hr) (fun t h => by cases h)⟩
end Go.Abs
namespace Go.Abs
open Go
variable {ds : List Deferred}
/-- A range over a map, out of its code. -/
def RLoop.ofCode : Code → RLoop
  | .seq (.region r2 o2 _) (.block x (.loop (.seq (.region r3 o3 _) (.seq (.cond (.tmp tb) _ _) (.block y (.seq (.region r4 o4 _) B)))))) =>
    let oR := o2.toList.getLastD default
    let oN := o3.toList.headD default
    let oX := o3.toList.getD 1 default
    let oE := o4.toList.headD default
    { r2 := r2, r3 := r3, r4 := r4, x := x, y := y, it := oR.dst.getD 0, tm := (match oR.op with | .range _ (.tmp t) => t | _ => 0), tn := oN.dst.getD 0, tb := tb, te := oE.dst.getD 0,
      t := (match oR.op with | .range t _ => t | _ => 0), pre := o2.toList.dropLast, os4 := o4.toList.tail, oR := oR, oN := oN, oX := oX, oE := oE, B := B }
  | _ => { r2 := 0, r3 := 0, r4 := 0, x := 0, y := 0, it := 0, tm := 0, tn := 0, tb := 0, te := 0, t := 0, pre := [], os4 := [], oR := default, oN := default, oX := default, oE := default, B := .skip }
theorem EWeak.mask (m : List Nat) (e : Env) : EWeak e (maskE m e) := ⟨maskE_length m e, fun t => maskE_getD m e t⟩
section
variable {P : Program} {T : Tab}
theorem trace_of (ok : TabOK P T) {f : FuncId} {all : Array Oper} {os : List Oper} {e e' : Env} {l l' : Locs} {σ σ' : Heap}
    (h : opsC (R := Env × Locs × Heap) T f (callC T known0 0 0) all os [] [] e l σ none (fun e l σ => some (e, l, σ)) = some (e', l', σ')) : Trace P T (isMaker T f) all os [] [] e l σ none e' l' σ' := by
  obtain ⟨e1, l1, σ1, h1, h2⟩ := opsC_trace ok (callC_sound ok known0_ok 0 0) h
  injection h1 with h1
  injection h1 with h1 h3
  injection h3 with h3 h4
  subst h1; subst h3; subst h4
  exact h2
theorem code_of (ok : TabOK P T) {O : Known} (kn : KnownOK P T O) {L n : Nat} {f : FuncId} {c : Code} (hg : goodCode T f c = true) {x : Ex} {e e' : Env} {l l' : Locs} {σ σ' : Heap}
    (h : codeC (R := Ex × Env × Locs × Heap) T L f (callC T O L n) c e l σ (fun x e l σ => some (x, e, l, σ)) = some (x, e', l', σ')) : CodeOK P T c e l σ x e' l' σ' := by
  obtain ⟨x1, e1, l1, σ1, h1, h2⟩ := codeC_sound ok (callC_sound ok kn L n) c hg h
  injection h1 with h1
  injection h1 with h0 h1
  injection h1 with h1 h3
  injection h3 with h3 h4
  subst h0; subst h1; subst h3; subst h4
  exact h2
theorem code_seq {a b : Code} {x : Ex} {e e1 e' : Env} {l l1 l' : Locs} {σ σ1 σ' : Heap} (h1 : CodeOK P T a e l σ .normal e1 l1 σ1) (h2 : CodeOK P T b e1 l1 σ1 x e' l' σ') : CodeOK P T (.seq a b) e l σ x e' l' σ' := by
  intro ds ρ lm a0 w hs
  refine wp_seq (wp_mono (h1 ds ρ lm a0 w hs) fun ex a1 w1 hq => ?_)
  obtain ⟨rfl, ρ1, lm1, s1, s2⟩ := hq
  exact wp_mono (h2 ds ρ1 lm1 a1 w1 s1) fun ex a2 w2 ⟨hx, ρ2, lm2, t1, t2⟩ => ⟨hx, ρ2, lm2, t1, s2.trans t2⟩
end
end Go.Abs
