/-
A grid in memory: lines go up, go down.
Contracts of the grid: Down, Up.
Contract of the grid's Up.
Contract of the grid's Resize.
Contracts: slices.Equal, the grid's Same; the grid laws' whole, tame, kind, do.
-/
import Derived.Test.YtcfohnfnajfahaaDoorMConF
namespace Go.Abs.TA
open Go Go.Abs Go.Proofs

section
variable {α : Type}
/-- The elements from t up to e go up by one, another one comes in at the end. -/
def upOne (xs : List α) (t e : Nat) (b : α) : List α := xs.take t ++ ((xs.drop (t + 1)).take (e - t - 1) ++ (b :: xs.drop e))
def downOne (xs : List α) (t e : Nat) (b : α) : List α := xs.take t ++ (b :: ((xs.drop t).take (e - 1 - t) ++ xs.drop e))
theorem upOne_len {xs : List α} {t e : Nat} {b : α} (h : t < e) (h' : e ≤ xs.length) : (upOne xs t e b).length = xs.length := by simp [upOne]; omega
theorem downOne_len {xs : List α} {t e : Nat} {b : α} (h : t < e) (h' : e ≤ xs.length) : (downOne xs t e b).length = xs.length := by simp [downOne]; omega
theorem upOne_get {xs : List α} {t e : Nat} {b : α} (h : t < e) (h' : e ≤ xs.length) (j : Nat) : (upOne xs t e b)[j]? = if j < t then xs[j]? else if j + 1 < e then xs[j + 1]? else if j + 1 = e then some b else xs[j]? := by
  unfold upOne
  have l1 : (xs.take t).length = t := by simp; omega
  have l2 : ((xs.drop (t + 1)).take (e - t - 1)).length = e - t - 1 := by simp; omega
  by_cases c1 : j < t
  · rw [if_pos c1, List.getElem?_append_left (by omega), List.getElem?_take, if_pos c1]
  · rw [if_neg c1, List.getElem?_append_right (by omega), l1]
    by_cases c2 : j + 1 < e
    · rw [if_pos c2, List.getElem?_append_left (by omega), List.getElem?_take, if_pos (by omega), List.getElem?_drop]
      congr 1
      omega
    · rw [if_neg c2, List.getElem?_append_right (by omega), l2]
      by_cases c3 : j + 1 = e
      · rw [if_pos c3, show j - t - (e - t - 1) = 0 by omega]
        rfl
      · rw [if_neg c3, show j - t - (e - t - 1) = (j - e) + 1 by omega, List.getElem?_cons_succ, List.getElem?_drop]
        congr 1
        omega
theorem downOne_get {xs : List α} {t e : Nat} {b : α} (h : t < e) (h' : e ≤ xs.length) (j : Nat) : (downOne xs t e b)[j]? = if j < t then xs[j]? else if j = t then some b else if j < e then xs[j - 1]? else xs[j]? := by
  unfold downOne
  have l1 : (xs.take t).length = t := by simp; omega
  have l2 : ((xs.drop t).take (e - 1 - t)).length = e - 1 - t := by simp; omega
  by_cases c1 : j < t
  · rw [if_pos c1, List.getElem?_append_left (by omega), List.getElem?_take, if_pos c1]
  · rw [if_neg c1, List.getElem?_append_right (by omega), l1]
    by_cases c2 : j = t
    · rw [if_pos c2, c2, Nat.sub_self]
      rfl
    · rw [if_neg c2, show j - t = (j - t - 1) + 1 by omega, List.getElem?_cons_succ]
      by_cases c3 : j < e
      · rw [if_pos c3, List.getElem?_append_left (by omega), List.getElem?_take, if_pos (by omega), List.getElem?_drop]
        congr 1
        omega
      · rw [if_neg c3, List.getElem?_append_right (by omega), l2, List.getElem?_drop]
        congr 1
        omega
theorem upOne_perm (xs : List α) (t e : Nat) (b : α) (h : t < e) : ∃ zs, zs.Sublist xs ∧ (upOne xs t e b).Perm (b :: zs) := by
  refine ⟨xs.take t ++ xs.drop (t + 1), ?_, ?_⟩
  · conv => rhs; rw [← List.take_append_drop t xs]
    refine List.Sublist.append (List.Sublist.refl _) ?_
    rw [← List.drop_drop]
    exact List.drop_sublist _ _
  · unfold upOne
    rw [← List.append_assoc]
    refine List.perm_middle.trans ?_
    rw [List.append_assoc]
    have : (xs.drop (t + 1)).take (e - t - 1) ++ xs.drop e = xs.drop (t + 1) := by
      conv => rhs; rw [← List.take_append_drop (e - t - 1) (xs.drop (t + 1))]
      rw [List.drop_drop, show t + 1 + (e - t - 1) = e by omega]
    rw [this]
theorem downOne_perm (xs : List α) (t e : Nat) (b : α) (h : t < e) : ∃ zs, zs.Sublist xs ∧ (downOne xs t e b).Perm (b :: zs) := by
  refine ⟨xs.take t ++ ((xs.drop t).take (e - 1 - t) ++ xs.drop e), ?_, List.perm_middle⟩
  conv => rhs; rw [← List.take_append_drop t xs]
  refine List.Sublist.append (List.Sublist.refl _) ?_
  conv => rhs; rw [← List.take_append_drop (e - 1 - t) (xs.drop t)]
  refine List.Sublist.append (List.Sublist.refl _) ?_
  have : xs.drop e = ((xs.drop t).drop (e - 1 - t)).drop 1 := by
    rw [List.drop_drop, List.drop_drop]
    congr 1
    omega
  rw [this]
  exact List.drop_sublist _ _
theorem up_over {xs : List α} {t e : Nat} {b : α} (h : t < e) (h' : e ≤ xs.length) : (over xs t ((xs.drop (t + 1)).take (e - t - 1))).set (e - 1) b = upOne xs t e b := by
  apply List.ext_getElem?
  intro j
  have hl : ((xs.drop (t + 1)).take (e - t - 1)).length = e - t - 1 := by simp; omega
  rw [upOne_get h h', List.getElem?_set, over_get (by rw [hl]; omega), hl, over_len (by rw [hl]; omega)]
  by_cases c1 : e - 1 = j
  · rw [if_pos c1, if_pos (by omega), if_neg (by omega), if_neg (by omega), if_pos (by omega)]
  · rw [if_neg c1]
    by_cases c2 : j < t
    · rw [if_pos c2, if_pos c2]
    · rw [if_neg c2, if_neg c2]
      by_cases c3 : j + 1 < e
      · rw [if_pos (by omega), if_pos c3, List.getElem?_take, if_pos (by omega), List.getElem?_drop]
        congr 1
        omega
      · rw [if_neg (by omega), if_neg c3, if_neg (by omega)]
theorem down_over {xs : List α} {t e : Nat} {b : α} (h : t < e) (h' : e ≤ xs.length) : (over xs (t + 1) ((xs.drop t).take (e - 1 - t))).set t b = downOne xs t e b := by
  apply List.ext_getElem?
  intro j
  have hl : ((xs.drop t).take (e - 1 - t)).length = e - 1 - t := by simp; omega
  rw [downOne_get h h', List.getElem?_set, over_get (by rw [hl]; omega), hl, over_len (by rw [hl]; omega)]
  by_cases c1 : t = j
  · rw [if_pos c1, if_pos (by omega), if_neg (by omega), if_pos c1.symm]
  · rw [if_neg c1]
    by_cases c2 : j < t
    · rw [if_pos (by omega), if_pos c2]
    · rw [if_neg (by omega), if_neg c2, if_neg (show ¬ j = t from fun e' => c1 e'.symm)]
      by_cases c3 : j < e
      · rw [if_pos (by omega), if_pos c3, List.getElem?_take, if_pos (by omega), List.getElem?_drop]
        congr 1
        omega
      · rw [if_neg (by omega), if_neg c3]
end
section
variable {σ σ' : Heap} {p h : Nat} {d : GD}
/-- Lines change places, one goes out, another one comes in. -/
theorem GridP.shift (g : GridP σ p h d) {x : Sl} {lx : List api_Cell} {c : Nat} (hx : x.b = some c) (hc : some c ∉ d.foot p) {els' els0 : List Sl} {ls' : List (List api_Cell)} (hperm : els'.Perm (x :: els0)) (hsub : els0.Sublist d.els)
    (hlen : els'.length = ls'.length) (hline : ∀ (i : Nat) (e : Sl) (l : List api_Cell), els'[i]? = some e → ls'[i]? = some l → (e = x ∧ l = lx) ∨ ∃ j : Nat, d.els[j]? = some e ∧ d.ls[j]? = some l)
    (hxo : x.Own eCell σ' lx) (hxl : lx.length = d.w) (own' : d.q.Own eSl σ' els') (hsame : ∀ b, some b ∈ d.foot p → d.q.b ≠ some b → σ'[b]? = σ[b]?) :
    GridP σ' p h ⟨d.q, els', d.w, ls'⟩ ∧ ∀ b, some b ∈ GD.foot ⟨d.q, els', d.w, ls'⟩ p → b = c ∨ some b ∈ d.foot p := by
  have hm : ∀ b, some b ∈ els'.map (·.b) → b = c ∨ some b ∈ d.els.map (·.b) := fun b hb => by
    have := (hperm.map (·.b)).mem_iff.1 hb
    simp only [List.map_cons, List.mem_cons] at this
    rcases this with h1 | h1
    · rw [hx] at h1
      injection h1 with h1
      exact .inl h1
    · exact .inr ((hsub.map (·.b)).subset h1)
  have hcp : c ≠ p := fun e => hc (by simp [GD.foot, e])
  have hcq : d.q.b ≠ some c := fun e => hc (by simp [GD.foot, e])
  have hce : some c ∉ d.els.map (·.b) := fun e => hc (by simp only [GD.foot]; exact List.mem_cons_of_mem _ (List.mem_cons_of_mem _ e))
  refine ⟨⟨g.head.same (hsame p (by simp [GD.foot]) g.p_q), own', hlen, fun i e l h1 h2 => ?_, fun l hl => ?_, g.w1, g.w2, ?_⟩, fun b hb => ?_⟩
  · rcases hline i e l h1 h2 with ⟨rfl, rfl⟩ | ⟨j, h3, h4⟩
    · exact hxo
    · refine own_same (g.line j e l h3 h4) fun b hb => hsame b ?_ (fun e2 => g.q_el (List.mem_of_getElem? h3) (by rw [hb, e2]))
      simp only [GD.foot, List.mem_cons, List.mem_map]
      exact .inr (.inr ⟨e, List.mem_of_getElem? h3, hb⟩)
  · obtain ⟨i, hi⟩ := List.mem_iff_getElem?.1 hl
    have hi' := (List.getElem?_eq_some_iff.1 hi).1
    simp only at hi hi'
    rcases hline i _ l (List.getElem?_eq_getElem (by omega)) hi with ⟨_, rfl⟩ | ⟨j, _, h4⟩
    · exact hxl
    · exact g.wide l (List.mem_of_getElem? h4)
  · have hnd := g.nd
    simp only [GD.foot] at hnd ⊢
    have hnd1 := List.nodup_cons.1 hnd
    have hnd2 := List.nodup_cons.1 hnd1.2
    refine List.nodup_cons.2 ⟨fun hm' => ?_, List.nodup_cons.2 ⟨fun hm' => ?_, ?_⟩⟩
    · rcases List.mem_cons.1 hm' with h1 | h1
      · exact g.p_q h1.symm
      · rcases hm p h1 with h2 | h2
        · exact hcp h2.symm
        · exact hnd1.1 (List.mem_cons_of_mem _ h2)
    · cases hq : d.q.b with
      | none =>
        rw [hq] at hm'
        have := (hperm.map (·.b)).mem_iff.1 hm'
        simp only [List.map_cons, List.mem_cons, hx] at this
        rcases this with h1 | h1
        · cases h1
        · exact hnd2.1 (by rw [hq]; exact (hsub.map (·.b)).subset h1)
      | some b =>
        rw [hq] at hm'
        rcases hm b hm' with h2 | h2
        · exact hcq (by rw [hq, h2])
        · exact hnd2.1 (by rw [hq]; exact h2)
    · refine (hperm.map (·.b)).nodup_iff.2 ?_
      rw [List.map_cons, hx]
      exact List.nodup_cons.2 ⟨fun h1 => hce ((hsub.map (·.b)).subset h1), hnd2.2.sublist (hsub.map (·.b))⟩
  · simp only [GD.foot, List.mem_cons] at hb
    rcases hb with h1 | h1 | h1
    · exact .inr (by simp [GD.foot, h1])
    · exact .inr (by simp [GD.foot, h1])
    · rcases hm b h1 with h2 | h2
      · exact .inl h2
      · exact .inr (by simp only [GD.foot]; exact List.mem_cons_of_mem _ (List.mem_cons_of_mem _ h2))
/-- Some lines' slices are written, a blank line is made, and put in its place. -/
theorem shift_heap (g : GridP σ p h d) {i k : Nat} {ys : List Sl} (hi : i + ys.length ≤ d.els.length) (hk : k < d.els.length) (s : api_Style) :
    ∃ bq σb σd x c, d.q.b = some bq ∧ σ.store bq (d.q.o + i * 1) (eSl.all ys) = some σb ∧ Head σb p d.w h d.q ∧ fresh eCell σb false (List.replicate d.w (blankC s)) = x ∧
      x.2.store bq (d.q.o + k * 1) [.slice x.1.b x.1.o x.1.n 6] = some σd ∧ d.q.Own eSl σd ((over d.els i ys).set k x.1) ∧ x.1.Own eCell σd (List.replicate d.w (blankC s)) ∧ x.1.b = some c ∧ σ.length ≤ c ∧
      (∀ b, b < σ.length → d.q.b ≠ some b → σd[b]? = σ[b]?) ∧ σ.length ≤ σd.length ∧ c < σd.length := by
  have hne : d.els ≠ [] := by intro e; rw [e] at hk; simp at hk
  obtain ⟨bq, hb, hq0, hbl⟩ := own_b g.own hne
  obtain ⟨σb, k1, k2, k3, k4⟩ := store_own (E := eSl) g.own hb (o := i * 1) (vs := eSl.all ys) (ys := over d.els i ys) (eSl.all_over hi) (over_len hi) (by
    rw [eSl.all_len]
    show i * 1 + ys.length * 1 ≤ d.els.length * 1
    omega)
  have hh : Head σb p d.w h d.q := g.head.same (k4 p (fun e => g.p_q (by rw [hb, e])))
  have A := fresh_own eCell σb false (List.replicate d.w (blankC s)) (by simp)
  have AP := fresh_pre eCell σb false (List.replicate d.w (blankC s))
  have hxb : (fresh eCell σb false (List.replicate d.w (blankC s))).1.b = some σb.length := rfl
  have hlen : (fresh eCell σb false (List.replicate d.w (blankC s))).2.length = σb.length + 1 := by simp [fresh]
  generalize hxe : fresh eCell σb false (List.replicate d.w (blankC s)) = x at A AP hxb hlen ⊢
  have hk' : k < (over d.els i ys).length := by rw [over_len hi]; exact hk
  obtain ⟨σd, m1, m2, m3, m4⟩ := store_own (E := eSl) (k2.pre AP) hb (o := k * 1) (vs := [.slice x.1.b x.1.o x.1.n 6]) (ys := (over d.els i ys).set k x.1)
    (eSl.all_set _ (List.getElem?_eq_getElem hk') x.1 [] (eSl.en (over d.els i ys)[k]) [] (by simp) (by simp [eSl]) (by simp [eSl]) (j := 0) rfl) (by simp) (by simp [eSl]; omega)
  refine ⟨bq, σb, σd, x, σb.length, hb, by rw [hq0, Nat.zero_add]; exact k1, hh, hxe, by rw [hq0, Nat.zero_add]; exact m1, m2, own_same A fun b hb' => m4 b ?_, hxb, by omega, fun b hb' hne' => ?_, by omega, by omega⟩
  · rw [hxb] at hb'
    injection hb' with hb'
    omega
  · have e1 : b ≠ bq := fun e => hne' (by rw [hb, e])
    rw [m4 b e1, get_pre AP (by omega), k4 b e1]
end
end Go.Abs.TA
namespace Go.Abs.TA
open Go Go.Abs Go.Proofs

def upN {α : Type} (xs : List α) (t e : Nat) (b : α) : Nat → List α
  | 0 => xs
  | n + 1 => upN (upOne xs t e b) t e b n
def downN {α : Type} (xs : List α) (t e : Nat) (b : α) : Nat → List α
  | 0 => xs
  | n + 1 => downN (downOne xs t e b) t e b n
/-- What goes out. -/
def upOut {α : Type} (xs : List α) (t e : Nat) (b : α) : Nat → List α
  | 0 => []
  | n + 1 => (xs.drop t).take 1 ++ upOut (upOne xs t e b) t e b n
def topN (h : Nat) (x : Int) : Nat := (within x 0 h).toNat
def cntN (h : Nat) (top e n : Int) : Nat := (within n 0 ((topN h e - topN h top : Nat) : Int)).toNat
theorem someR_eq (top e n : Int) {h : Nat} (hh : h ≤ 1000) : someR top e n h = ((topN h top : Int), (topN h e : Int), (cntN h top e n : Int)) ∧ topN h top ≤ h ∧ topN h e ≤ h ∧ cntN h top e n ≤ topN h e - topN h top := by
  obtain ⟨t, k, m, h1, h2, h3, e1, e2, e3, e4⟩ := someR_nat top e n hh
  have a1 : topN h top = t := by unfold topN; rw [e1]; rfl
  have a2 : topN h e = k := by unfold topN; rw [e2]; rfl
  have a3 : cntN h top e n = m := by unfold cntN; rw [a1, a2, e3]; rfl
  rw [a1, a2, a3]
  exact ⟨e4, h1, h2, h3⟩
theorem upN_len {α : Type} {t e : Nat} {b : α} (h : t < e) : ∀ (n : Nat) (xs : List α), e ≤ xs.length → (upN xs t e b n).length = xs.length
  | 0, _, _ => rfl
  | n + 1, xs, h' => by
    rw [upN, upN_len h n _ (by rw [upOne_len h h']; exact h'), upOne_len h h']
theorem downN_len {α : Type} {t e : Nat} {b : α} (h : t < e) : ∀ (n : Nat) (xs : List α), e ≤ xs.length → (downN xs t e b n).length = xs.length
  | 0, _, _ => rfl
  | n + 1, xs, h' => by
    rw [downN, downN_len h n _ (by rw [downOne_len h h']; exact h'), downOne_len h h']
section
variable {σ σ' : Heap} {p h : Nat} {d : GD}
theorem line_up (g : GridP σ p h d) {t e : Nat} {x : Sl} {lx : List api_Cell} (hte : t < e) (he : e ≤ d.ls.length) :
    ∀ (i : Nat) (f : Sl) (l : List api_Cell), (upOne d.els t e x)[i]? = some f → (upOne d.ls t e lx)[i]? = some l → (f = x ∧ l = lx) ∨ ∃ j : Nat, d.els[j]? = some f ∧ d.ls[j]? = some l := fun i f l h1 h2 => by
  rw [upOne_get hte (by rw [g.len]; exact he)] at h1
  rw [upOne_get hte he] at h2
  split at h1
  · rename_i c; rw [if_pos c] at h2; exact .inr ⟨i, h1, h2⟩
  · rename_i c; rw [if_neg c] at h2
    split at h1
    · rename_i c; rw [if_pos c] at h2; exact .inr ⟨i + 1, h1, h2⟩
    · rename_i c; rw [if_neg c] at h2
      split at h1
      · rename_i c; rw [if_pos c] at h2
        injection h1 with h1; injection h2 with h2
        exact .inl ⟨h1.symm, h2.symm⟩
      · rename_i c; rw [if_neg c] at h2; exact .inr ⟨i, h1, h2⟩
theorem line_down (g : GridP σ p h d) {t e : Nat} {x : Sl} {lx : List api_Cell} (hte : t < e) (he : e ≤ d.ls.length) :
    ∀ (i : Nat) (f : Sl) (l : List api_Cell), (downOne d.els t e x)[i]? = some f → (downOne d.ls t e lx)[i]? = some l → (f = x ∧ l = lx) ∨ ∃ j : Nat, d.els[j]? = some f ∧ d.ls[j]? = some l := fun i f l h1 h2 => by
  rw [downOne_get hte (by rw [g.len]; exact he)] at h1
  rw [downOne_get hte he] at h2
  split at h1
  · rename_i c; rw [if_pos c] at h2; exact .inr ⟨i, h1, h2⟩
  · rename_i c; rw [if_neg c] at h2
    split at h1
    · rename_i c; rw [if_pos c] at h2
      injection h1 with h1; injection h2 with h2
      exact .inl ⟨h1.symm, h2.symm⟩
    · rename_i c; rw [if_neg c] at h2
      split at h1
      · rename_i c; rw [if_pos c] at h2; exact .inr ⟨i - 1, h1, h2⟩
      · rename_i c; rw [if_neg c] at h2; exact .inr ⟨i, h1, h2⟩
end
/-! Down -/
noncomputable def c_grid_Grid_Down : C_grid_Grid_Down := { grid_Grid_some := w_grid_Grid_some, grid_blank := w_grid_blank }
theorem Down_loop {L : Nat} {p H M t e : Nat} {s : api_Style} (hH : H ≤ 60) (he : e ≤ H) (hM : M ≤ e - t) :
    ∀ (k i m : Nat) (σ : Heap) (d : GD), i + k = M → k < m → GridP σ p H d → d.ls.length = H →
      ∃ σ1 d1, GridP σ1 p H d1 ∧ Turn σ p d σ1 d1 ∧ d1.w = d.w ∧ d1.ls = downN d.ls t e (List.replicate d.w (blankC s)) k ∧
        grid_Grid_Down_L3 (R := AVal × Heap) c_grid_Grid_Down L m (some (p, 0)) (t : Int) (e : Int) (M : Int) (i : Int) s σ (fun v σ => some (v, σ)) = some (.tuple [], σ1)
  | k, i, 0, _, _, _, h, _, _ => by omega
  | 0, i, m + 1, σ, d, hk, _, g, hl => by
    refine ⟨σ, d, g, Turn.refl, rfl, rfl, ?_⟩
    rw [grid_Grid_Down_L3_eq, lt_false (by omega)]
    rfl
  | k + 1, i, m + 1, σ, d, hk, hm, g, hl => by
    have hi : i < M := by omega
    have hte : t < e := by omega
    have hw2 := g.w2
    have hel : d.els.length = H := by rw [g.len, hl]
    have hqn : d.q.n = H := by rw [g.own.len, hel]
    have hyl : ((d.els.drop t).take (e - 1 - t)).length = e - 1 - t := by simp; omega
    obtain ⟨bq, σb, σd, x, c, a1, a2, a3, a4, a5, a6, a7, a8, a9, a10, a11, a12⟩ := shift_heap g (i := t + 1) (k := t) (ys := (d.els.drop t).take (e - 1 - t)) (by rw [hyl]; omega) (by omega) s
    rw [down_over hte (by omega)] at a6
    have hcn : some c ∉ d.foot p := fun hm => by have := g.foot_lt hm; omega
    obtain ⟨els0, z1, z2⟩ := downOne_perm d.els t e x.1 hte
    obtain ⟨g', hf⟩ := g.shift (lx := List.replicate d.w (blankC s)) a8 hcn z2 z1 (by rw [downOne_len hte (by omega), downOne_len hte (by omega), g.len]) (line_down g hte (by omega)) a7 (by simp) a6 (fun b hb hne => a10 b (g.foot_lt hb) hne)
    have t' : Turn σ p d σd ⟨d.q, downOne d.els t e x.1, d.w, downOne d.ls t e (List.replicate d.w (blankC s))⟩ := ⟨a11, fun b hb hn => a10 b hb (fun e => hn (by simp [GD.foot, e])), fun b hb => by
      rcases hf b hb with h1 | h1
      · exact .inr (by omega)
      · exact .inl h1⟩
    obtain ⟨σ1, d1, r1, r2, r3, r4, r5⟩ := Down_loop (L := L) (s := s) hH he hM k (i + 1) m σd _ (by omega) (by omega) g' (by rw [downOne_len hte (by omega)]; exact hl)
    refine ⟨σ1, d1, r1, t'.trans r2, r3, r4, ?_⟩
    have p1 : c_grid_Grid_Down.grid_blank = w_grid_blank := rfl
    have e1 : IntKind.i64.wrap ((t : Int) + 1) = ((t + 1 : Nat) : Int) := wrap_i64_succ t (by omega)
    have e2 : IntKind.i64.wrap ((e : Int) - 1) = ((e - 1 : Nat) : Int) := by rw [wrap_i64_of (by omega) (by omega)]; omega
    have hrd : σ.read (some bq) (d.q.o + t * 1) (min (e - 1 - t) (e - (t + 1))) 1 = some (eSl.all ((d.els.drop t).take (e - 1 - t))) := by
      have := ((g.own.is (by omega)).drop (k := t) (by omega)).readn (m := e - 1 - t) (by simp; omega)
      rw [show min (e - 1 - t) (e - (t + 1)) = e - 1 - t by omega, ← a1]
      exact this
    rw [grid_Grid_Down_L3_eq, lt_true hi, cond_true, e1, e2]
    simp only [Option.bind_some, g.head.c2, hqn, dec0, Int.toNat_natCast]
    rw [show decide (((t + 1 : Nat) : Int) ≤ (e : Int)) = true by simp; omega, show decide ((e : Int) ≤ (H : Int)) = true by simp; omega, show decide ((t : Int) ≤ ((e - 1 : Nat) : Int)) = true by simp; omega, show decide (((e - 1 : Nat) : Int) ≤ (H : Int)) = true by simp; omega]
    simp only [Bool.and_self, a1]
    rw [cond_true, cond_true, hrd, Option.bind_some]
    simp only [a2, Option.bind_some, a3.c0, a3.c2, p1]
    rw [w_grid_blank_eq (by omega), Option.bind_some, fresh_frz2, fresh_frz1, a4]
    rw [hqn, lt_true (show t < H by omega), a1]
    simp only [Bool.and_self, Option.bind_some, a5]
    rw [cond_true, wrap_i64_succ i (by omega)]
    exact r5
def downG (w : Nat) (ls : List (List api_Cell)) (top e n : Int) (s : api_Style) : List (List api_Cell) :=
  downN ls (topN ls.length top) (topN ls.length e) (List.replicate w (blankC s)) (cntN ls.length top e n)
noncomputable def w_grid_Grid_Down (g : Pt) (top e n : Int) (s : api_Style) (σ : Heap) : Option (Unit × Heap) :=
  wRel fun v σ' => CallOK Tryd.prog T 41 [tPtr.av g, (tInt .i64).av top, (tInt .i64).av e, (tInt .i64).av n, t_api_Style.av s] σ (tVoid.av v) σ' ∧
    ∀ p d, g = some (p, 0) → Grid σ p d → Turned σ σ' p d (downG d.w d.ls top e n s)
theorem ok_grid_Grid_Down : Ok_grid_Grid_Down w_grid_Grid_Down := fun _ _ _ _ _ _ _ _ h => (wRel_some h).1
theorem w_grid_Grid_Down_ex {p : Nat} {d : GD} {σ : Heap} (hg : Grid σ p d) (top e n : Int) (s : api_Style) : ∃ σ', w_grid_Grid_Down (some (p, 0)) top e n s σ = some ((), σ') ∧ Turned σ σ' p d (downG d.w d.ls top e n s) := by
  have hh2 := hg.h2
  have hh1 := hg.h1
  obtain ⟨es, h1, h2, h3⟩ := someR_eq top e n (h := d.ls.length) (by omega)
  have p1 : c_grid_Grid_Down.grid_Grid_some = w_grid_Grid_some := rfl
  have go : ∃ σ', callC (R := AVal × Heap) T (O_grid_Grid_Down c_grid_Grid_Down) 100 2 41 [.ptr (some (p, 0)), .int .i64 top, .int .i64 e, .int .i64 n, .agg [.bool s.Bold, .bool s.Under, .bool s.Turned, .int .i64 s.Fore, .int .i64 s.Back]] σ (fun v σ => some (v, σ)) = some (.tuple [], σ') ∧ Turned σ σ' p d (downG d.w d.ls top e n s) := by
    rw [grid_Grid_Down_eq, p1, w_grid_Grid_some_eq hg.head.row, Option.bind_some, es]
    obtain ⟨σ1, d1, r1, r2, r3, r4, r5⟩ := Down_loop (L := 100) (s := s) hg.h2 h2 h3 (cntN d.ls.length top e n) 0 100 σ d (by omega) (by omega) hg.toGridP rfl
    refine ⟨σ1, r5, d1, ?_, r2, r3, r4⟩
    have hlen : d1.ls.length = d.ls.length := by
      rw [r4]
      by_cases hc : cntN d.ls.length top e n = 0
      · rw [hc]; rfl
      · exact downN_len (by omega) _ _ h2
    exact ⟨by rw [hlen]; exact r1, by omega, by omega⟩
  obtain ⟨σ', hc, hT⟩ := go
  obtain ⟨x, hx, hP⟩ := wRel_ex (P := fun v σ' => CallOK Tryd.prog T 41 [tPtr.av (some (p, 0)), (tInt .i64).av top, (tInt .i64).av e, (tInt .i64).av n, t_api_Style.av s] σ (tVoid.av v) σ' ∧
    ∀ p1 d1, (some (p, 0) : Pt) = some (p1, 0) → Grid σ p1 d1 → Turned σ σ' p1 d1 (downG d1.w d1.ls top e n s)) (v := ()) (σ := σ')
    ⟨call_ok ok (K_grid_Grid_Down c_grid_Grid_Down ok_grid_Grid_some ok_grid_blank) (L := 100) (n := 2) hc, fun p1 d1 e1 g1 => by
      obtain rfl := uniq_pt e1
      rw [g1.uniq hg]
      exact hT⟩
  exact ⟨x.2, hx, hP.2 p d rfl hg⟩
end Go.Abs.TA
namespace Go.Abs.TA
open Go Go.Abs Go.Proofs

/-- Lines that went out of a grid. -/
def Outs (σ : Heap) (p : Nat) (d : GD) (v : Sl) (ols : List (List api_Cell)) : Prop :=
  ∃ oels : List Sl, v.Is eSl σ oels ∧ oels.length = ols.length ∧ (∀ c, v.b = some c → some c ∉ d.foot p) ∧
    ∀ (i : Nat) (f : Sl) (l : List api_Cell), oels[i]? = some f → ols[i]? = some l → f.Is eCell σ l ∧ ∀ c, f.b = some c → some c ∉ d.foot p
theorem Outs.turn {σ σ' : Heap} {p : Nat} {d d' : GD} {v : Sl} {ols : List (List api_Cell)} (h : Outs σ p d v ols) (t : Turn σ p d σ' d') : Outs σ' p d' v ols := by
  obtain ⟨oels, h1, h2, h3, h4⟩ := h
  have key : ∀ {α : Type} {E : El α} {s : Sl} {xs : List α}, s.Is E σ xs → (∀ c, s.b = some c → some c ∉ d.foot p) → s.Is E σ' xs ∧ ∀ c, s.b = some c → some c ∉ d'.foot p := fun hs hn =>
    ⟨hs.of_row fun b cs hb hr => by rw [row?_congr (t.at_ b (row?_lt hr) (hn b hb))]; exact hr, fun c hc hm => by
      rcases t.foot c hm with h5 | h5
      · exact hn c hc h5
      · have := hs.lt hc; omega⟩
  obtain ⟨k1, k2⟩ := key h1 h3
  exact ⟨oels, k1, h2, k2, fun i f l hf hl => key (h4 i f l hf hl).1 (h4 i f l hf hl).2⟩
/-- .. on their way. -/
structure OutInv (n0 : Nat) (σ : Heap) (p : Nat) (d : GD) (out : Sl) (oels : List Sl) (ols : List (List api_Cell)) : Prop where
  own : out.Own eSl σ oels
  new : ∀ c, out.b = some c → n0 ≤ c ∧ some c ∉ d.foot p
  len : oels.length = ols.length
  line : ∀ (i : Nat) (f : Sl) (l : List api_Cell), oels[i]? = some f → ols[i]? = some l → f.Own eCell σ l ∧ 1 ≤ l.length ∧ l.length ≤ 60 ∧ f.b ∉ d.foot p ∧ f.b ≠ out.b
noncomputable def c_grid_Grid_Up : C_grid_Grid_Up := { grid_Grid_some := w_grid_Grid_some, grid_blank := w_grid_blank }
theorem Up_loop {L : Nat} {p H M t e n0 : Nat} {s : api_Style} (hH : H ≤ 60) (he : e ≤ H) (hM : M ≤ e - t) :
    ∀ (k i m : Nat) (σ : Heap) (d : GD) (out : Sl) (oels : List Sl) (ols : List (List api_Cell)), i + k = M → k < m → GridP σ p H d → d.ls.length = H → OutInv n0 σ p d out oels ols → oels.length = i → n0 ≤ σ.length →
      ∃ σ1 d1 v oels1, GridP σ1 p H d1 ∧ (∀ τ d0, τ.length = n0 → Turn τ p d0 σ d → Turn τ p d0 σ1 d1) ∧ d1.w = d.w ∧ d1.ls = upN d.ls t e (List.replicate d.w (blankC s)) k ∧
        OutInv n0 σ1 p d1 v oels1 (ols ++ upOut d.ls t e (List.replicate d.w (blankC s)) k) ∧
        grid_Grid_Up_L4 (R := AVal × Heap) c_grid_Grid_Up L m (some (p, 0)) (t : Int) (e : Int) out (M : Int) (i : Int) s σ (fun v σ => some (v, σ)) = some (.slice v.b v.o v.n 1, σ1)
  | k, i, 0, _, _, _, _, _, _, h, _, _, _, _, _ => by omega
  | 0, i, m + 1, σ, d, out, oels, ols, hk, _, g, hl, ho, _, _ => by
    refine ⟨σ, d, out, oels, g, fun _ _ _ h => h, rfl, rfl, by rw [upOut, List.append_nil]; exact ho, ?_⟩
    rw [grid_Grid_Up_L4_eq, lt_false (by omega)]
    rfl
  | k + 1, i, m + 1, σ, d, out, oels, ols, hk, hm, g, hl, ho, hoi, hn0 => by
    have hi : i < M := by omega
    have hte : t < e := by omega
    have hw1 := g.w1
    have hw2 := g.w2
    have hel : d.els.length = H := by rw [g.len, hl]
    have hqn : d.q.n = H := by rw [g.own.len, hel]
    have ht : t < d.ls.length := by omega
    have hlt := List.getElem?_eq_getElem ht
    obtain ⟨b9, f, u1, u2, u3, u4, u5, u6, u7⟩ := g.line_at hlt
    generalize hlg : d.ls[t] = l at hlt u4 u5
    obtain ⟨cf, hcf, _, _, hcfr⟩ := own_some u4 (by omega)
    have hcfl := (List.getElem?_eq_some_iff.1 hcfr).1
    have hcfm : some cf ∈ d.foot p := by
      simp only [GD.foot, List.mem_cons, List.mem_map]
      exact .inr (.inr ⟨f, List.mem_of_getElem? u2, hcf⟩)
    -- the line goes out
    obtain ⟨q11, σa, v1, v2, v3, v4⟩ := append_own (E := eSl) ho.own (ys := [f]) (bytes := 24) (vs := [.slice f.b f.o f.n 6]) (k := 1) (by simp [eSl, El.all]) rfl (by simp; omega) (by simp; omega)
    have hqnew := append_new v1 (by decide)
    have hsa : ∀ b, b < σ.length → out.b ≠ some b → σa[b]? = σ[b]? := v3.at_
    have hla := v3.len
    have ga : GridP σa p H d := g.same fun b hb => hsa b (g.foot_lt hb) (fun e2 => (ho.new b e2).2 hb)
    obtain ⟨b', hb', _, hbl'⟩ := own_b v2 (by simp)
    have hb'' : q11.1 = some b' := hb'
    have hbn := hqnew b' hb''
    -- the others go up
    have hyl : ((d.els.drop (t + 1)).take (e - t - 1)).length = e - t - 1 := by simp; omega
    obtain ⟨bq, σb, σd, x, c, a1, a2, a3, a4, a5, a6, a7, a8, a9, a10, a11, a12⟩ := shift_heap ga (i := t) (k := e - 1) (ys := (d.els.drop (t + 1)).take (e - t - 1)) (by rw [hyl]; omega) (by omega) s
    obtain rfl : b9 = bq := Option.some.inj (u1.symm.trans a1)
    rw [up_over hte (by omega)] at a6
    have hcn : some c ∉ d.foot p := fun hm => by have := ga.foot_lt hm; omega
    obtain ⟨els0, z1, z2⟩ := upOne_perm d.els t e x.1 hte
    obtain ⟨g', hf⟩ := ga.shift (lx := List.replicate d.w (blankC s)) a8 hcn z2 z1 (by rw [upOne_len hte (by omega), upOne_len hte (by omega), g.len]) (line_up ga hte (by omega)) a7 (by simp) a6 (fun b hb hne => a10 b (ga.foot_lt hb) hne)
    have hout : some cf ∉ GD.foot ⟨d.q, upOne d.els t e x.1, d.w, upOne d.ls t e (List.replicate d.w (blankC s))⟩ p := by
      intro hm
      simp only [GD.foot, List.mem_cons] at hm
      rcases hm with h1 | h1 | h1
      · exact g.p_el (List.mem_of_getElem? u2) (by rw [hcf, h1])
      · exact g.q_el (List.mem_of_getElem? u2) (by rw [hcf, h1])
      · obtain ⟨y, hy, hyb⟩ := List.mem_map.1 h1
        obtain ⟨j, hj⟩ := List.mem_iff_getElem?.1 hy
        rw [upOne_get hte (by omega)] at hj
        have hne : ∀ j', d.els[j']? = some y → j' ≠ t → False := fun j' h2 h3 => h3 (nodup_get g.nd_els (x := some cf) (by rw [List.getElem?_map, h2]; simp [hyb]) (by rw [List.getElem?_map, u2]; simp [hcf]))
        split at hj
        · exact hne j hj (by omega)
        · split at hj
          · exact hne (j + 1) hj (by omega)
          · split at hj
            · injection hj with hj
              rw [← hj, a8] at hyb
              injection hyb with hyb
              omega
            · exact hne j hj (by omega)
    have hO : OutInv n0 σd p ⟨d.q, upOne d.els t e x.1, d.w, upOne d.ls t e (List.replicate d.w (blankC s))⟩ ⟨q11.1, q11.2.1, q11.2.2⟩ (oels ++ [f]) (ols ++ [l]) := by
      refine ⟨?_, fun b hb => ?_, by simp [ho.len], fun j f1 l1 h1 h2 => ?_⟩
      · refine own_same v2 fun b hb => a10 b ?_ fun e2 => ?_
        · have hb : q11.1 = some b := hb
          rw [hb''] at hb
          injection hb with hb
          omega
        · have hb : q11.1 = some b := hb
          have := g.foot_lt (b := b) (by simp [GD.foot, e2])
          have := hqnew b hb
          omega
      · have hb : q11.1 = some b := hb
        have hbn2 := hqnew b hb
        refine ⟨by omega, fun hm => ?_⟩
        rcases hf b hm with h1 | h1
        · rw [hb''] at hb
          injection hb with hb
          omega
        · have := g.foot_lt h1
          omega
      · have key : f1.Own eCell σ l1 ∧ 1 ≤ l1.length ∧ l1.length ≤ 60 ∧ f1.b ≠ out.b ∧ f1.b ≠ d.q.b ∧ ∀ z, f1.b = some z → z < σ.length ∧ some z ∉ GD.foot ⟨d.q, upOne d.els t e x.1, d.w, upOne d.ls t e (List.replicate d.w (blankC s))⟩ p := by
          by_cases hj : j < oels.length
          · rw [List.getElem?_append_left hj] at h1
            rw [List.getElem?_append_left (by rw [← ho.len]; exact hj)] at h2
            obtain ⟨w1, w2, w3, w4, w5⟩ := ho.line j f1 l1 h1 h2
            refine ⟨w1, w2, w3, w5, fun e2 => w4 (by simp [GD.foot, e2]), fun z hz => ?_⟩
            obtain ⟨z', hz', _, _, hzr⟩ := own_some w1 w2
            rw [hz] at hz'
            injection hz' with hz'
            subst hz'
            have hzl := (List.getElem?_eq_some_iff.1 hzr).1
            refine ⟨hzl, fun hm => ?_⟩
            rcases hf z hm with h3 | h3
            · omega
            · exact w4 (by rw [hz]; exact h3)
          · rw [List.getElem?_append_right (by omega)] at h1
            rw [List.getElem?_append_right (by rw [← ho.len]; omega), ← ho.len] at h2
            have hj0 : j - oels.length = 0 := by
              have := (List.getElem?_eq_some_iff.1 h1).1
              simp at this
              omega
            rw [hj0] at h1 h2
            simp at h1 h2
            subst h1; subst h2
            refine ⟨u4, by omega, by omega, ?_, g.q_el (List.mem_of_getElem? u2), fun z hz => ?_⟩
            · rw [hcf]
              intro e2
              exact (ho.new cf e2.symm).2 hcfm
            · rw [hcf] at hz
              injection hz with hz
              subst hz
              exact ⟨hcfl, hout⟩
        obtain ⟨w1, w2, w3, w4, w5, w6⟩ := key
        obtain ⟨z, hz, _, _, _⟩ := own_some w1 w2
        obtain ⟨w7, w8⟩ := w6 z hz
        refine ⟨own_same w1 fun b hb => ?_, w2, w3, by rw [hz]; exact w8, by rw [hz, hb'']; intro e2; injection e2 with e2; omega⟩
        rw [hz] at hb
        injection hb with hb
        subst hb
        rw [a10 z (by omega) (fun e2 => w5 (by rw [hz, e2])), hsa z w7 (fun e2 => w4 (by rw [hz, e2]))]
    have t' : ∀ τ d0, τ.length = n0 → Turn τ p d0 σ d → Turn τ p d0 σd ⟨d.q, upOne d.els t e x.1, d.w, upOne d.ls t e (List.replicate d.w (blankC s))⟩ := fun τ d0 hτ tt =>
      ⟨by omega, fun b hb hn => by
        have hnd : some b ∉ d.foot p := fun hm => by
          rcases tt.foot b hm with h1 | h1
          · exact hn h1
          · omega
        rw [a10 b (by omega) (fun e2 => hnd (by simp [GD.foot, e2])), hsa b (by omega) (fun e2 => by have := (ho.new b e2).1; omega), tt.at_ b hb hn], fun b hb => by
        rcases hf b hb with h1 | h1
        · exact .inr (by omega)
        · exact tt.foot b h1⟩
    obtain ⟨σ1, d1, v, oels1, r1, r2, r3, r4, r5, r6⟩ := Up_loop (L := L) (n0 := n0) (s := s) hH he hM k (i + 1) m σd _ ⟨q11.1, q11.2.1, q11.2.2⟩ (oels ++ [f]) (ols ++ [l]) (by omega) (by omega) g' (by rw [upOne_len hte (by omega)]; exact hl) hO (by simp [hoi]) (by omega)
    refine ⟨σ1, d1, v, oels1, r1, fun τ d0 hτ tt => r2 τ d0 hτ (t' τ d0 hτ tt), r3, r4, ?_, ?_⟩
    · rw [upOut]
      have e3 : (d.ls.drop t).take 1 = [l] := by
        rw [List.drop_eq_getElem_cons ht, List.take_succ_cons, List.take_zero, hlg]
      rw [e3, ← List.append_assoc]
      exact r5
    · have p1 : c_grid_Grid_Up.grid_blank = w_grid_blank := rfl
      have e1 : IntKind.i64.wrap ((t : Int) + 1) = ((t + 1 : Nat) : Int) := wrap_i64_succ t (by omega)
      have e2 : IntKind.i64.wrap ((e : Int) - 1) = ((e - 1 : Nat) : Int) := by rw [wrap_i64_of (by omega) (by omega)]; omega
      have hrd : σa.read (some b9) (d.q.o + (t + 1) * 1) (min (e - (t + 1)) (e - 1 - t)) 1 = some (eSl.all ((d.els.drop (t + 1)).take (e - t - 1))) := by
        have := ((ga.own.is (by omega)).drop (k := t + 1) (by omega)).readn (m := e - t - 1) (by simp; omega)
        rw [show min (e - (t + 1)) (e - 1 - t) = e - t - 1 by omega, ← a1]
        exact this
      have ha3 := ga.head
      rw [grid_Grid_Up_L4_eq, lt_true hi, cond_true, e1, e2]
      simp only [Option.bind_some, g.head.c2, hqn, dec0, Int.toNat_natCast, lt_true (show t < H by omega), u1, u3]
      simp only [Bool.and_self]
      have v1' : σ.append out.b out.o out.n 1 24 [.slice f.b f.o f.n 6] 1 = some (q11, σa) := v1
      rw [cond_true, v1', Option.bind_some]
      simp only [ha3.c2, Option.bind_some, hqn]
      rw [show decide (((t + 1 : Nat) : Int) ≤ (e : Int)) = true by simp; omega, show decide ((e : Int) ≤ (H : Int)) = true by simp; omega, show decide ((t : Int) ≤ ((e - 1 : Nat) : Int)) = true by simp; omega, show decide (((e - 1 : Nat) : Int) ≤ (H : Int)) = true by simp; omega]
      simp only [Bool.and_self, a1]
      rw [cond_true, cond_true, hrd, Option.bind_some]
      simp only [a2, Option.bind_some, a3.c0, a3.c2, p1]
      rw [w_grid_blank_eq (by omega), Option.bind_some, fresh_frz2, fresh_frz1, a4]
      rw [hqn, lt_true (show e - 1 < H by omega), a1]
      simp only [Bool.and_self, Option.bind_some, a5]
      rw [cond_true, wrap_i64_succ i (by omega)]
      exact r6
def upG (w : Nat) (ls : List (List api_Cell)) (top e n : Int) (s : api_Style) : List (List api_Cell) :=
  upN ls (topN ls.length top) (topN ls.length e) (List.replicate w (blankC s)) (cntN ls.length top e n)
def upO (w : Nat) (ls : List (List api_Cell)) (top e n : Int) (s : api_Style) : List (List api_Cell) :=
  upOut ls (topN ls.length top) (topN ls.length e) (List.replicate w (blankC s)) (cntN ls.length top e n)
/-- A grid is turned, and lines go out. -/
def TurnedOut (σ σ' : Heap) (p : Nat) (d : GD) (v : Sl) (ls' ols : List (List api_Cell)) (w : Nat) : Prop := ∃ d', Grid σ' p d' ∧ Turn σ p d σ' d' ∧ d'.w = w ∧ d'.ls = ls' ∧ Outs σ' p d' v ols
noncomputable def w_grid_Grid_Up (g : Pt) (top e n : Int) (s : api_Style) (σ : Heap) : Option (Sl × Heap) :=
  wRel fun v σ' => CallOK Tryd.prog T 40 [tPtr.av g, (tInt .i64).av top, (tInt .i64).av e, (tInt .i64).av n, t_api_Style.av s] σ ((tSl 1).av v) σ' ∧
    ∀ p d, g = some (p, 0) → Grid σ p d → TurnedOut σ σ' p d v (upG d.w d.ls top e n s) (upO d.w d.ls top e n s) d.w
theorem ok_grid_Grid_Up : Ok_grid_Grid_Up w_grid_Grid_Up := fun _ _ _ _ _ _ _ _ h => (wRel_some h).1
theorem w_grid_Grid_Up_ex {p : Nat} {d : GD} {σ : Heap} (hg : Grid σ p d) (top e n : Int) (s : api_Style) : ∃ v σ', w_grid_Grid_Up (some (p, 0)) top e n s σ = some (v, σ') ∧ TurnedOut σ σ' p d v (upG d.w d.ls top e n s) (upO d.w d.ls top e n s) d.w := by
  have hh2 := hg.h2
  have hh1 := hg.h1
  obtain ⟨es, h1, h2, h3⟩ := someR_eq top e n (h := d.ls.length) (by omega)
  have p1 : c_grid_Grid_Up.grid_Grid_some = w_grid_Grid_some := rfl
  have go : ∃ v σ', callC (R := AVal × Heap) T (O_grid_Grid_Up c_grid_Grid_Up) 100 2 40 [.ptr (some (p, 0)), .int .i64 top, .int .i64 e, .int .i64 n, .agg [.bool s.Bold, .bool s.Under, .bool s.Turned, .int .i64 s.Fore, .int .i64 s.Back]] σ (fun v σ => some (v, σ)) = some ((tSl 1).av v, σ') ∧ TurnedOut σ σ' p d v (upG d.w d.ls top e n s) (upO d.w d.ls top e n s) d.w := by
    rw [grid_Grid_Up_eq, p1, w_grid_Grid_some_eq hg.head.row, Option.bind_some, es]
    obtain ⟨σ1, d1, v, oels1, r1, r2, r3, r4, r5, r6⟩ := Up_loop (L := 100) (n0 := σ.length) (s := s) hg.h2 h2 h3 (cntN d.ls.length top e n) 0 100 σ d ⟨none, 0, 0⟩ [] [] (by omega) (by omega) hg.toGridP rfl ⟨.nil rfl rfl rfl rfl, fun c hc => by simp at hc, rfl, fun i f l hf _ => by simp at hf⟩ rfl (Nat.le_refl _)
    have hlen : d1.ls.length = d.ls.length := by
      rw [r4]
      by_cases hc : cntN d.ls.length top e n = 0
      · rw [hc]; rfl
      · exact upN_len (by omega) _ _ h2
    have hol : ∀ (k : Nat) (xs : List (List api_Cell)), (upOut xs (topN d.ls.length top) (topN d.ls.length e) (List.replicate d.w (blankC s)) k).length ≤ k := by
      intro k
      induction k with
      | zero => intro xs; simp [upOut]
      | succ k ih =>
        intro xs
        rw [upOut]
        have := ih (upOne xs (topN d.ls.length top) (topN d.ls.length e) (List.replicate d.w (blankC s)))
        simp only [List.length_append, List.length_take]
        omega
    rw [List.nil_append] at r5
    have hol2 := hol (cntN d.ls.length top e n) d.ls
    have hlo := r5.len
    refine ⟨v, σ1, r6, d1, ⟨by rw [hlen]; exact r1, by omega, by omega⟩, r2 σ d rfl Turn.refl, r3, r4, oels1, r5.own.is (by omega), hlo, fun c hc => (r5.new c hc).2, fun i f l hf hl => ?_⟩
    obtain ⟨w1, w2, w3, w4, _⟩ := r5.line i f l hf hl
    exact ⟨w1.is (by omega), fun c hc => by rw [← hc]; exact w4⟩
  obtain ⟨v, σ', hc, hT⟩ := go
  obtain ⟨x, hx, hP⟩ := wRel_ex (P := fun v σ' => CallOK Tryd.prog T 40 [tPtr.av (some (p, 0)), (tInt .i64).av top, (tInt .i64).av e, (tInt .i64).av n, t_api_Style.av s] σ ((tSl 1).av v) σ' ∧
    ∀ p1 d1, (some (p, 0) : Pt) = some (p1, 0) → Grid σ p1 d1 → TurnedOut σ σ' p1 d1 v (upG d1.w d1.ls top e n s) (upO d1.w d1.ls top e n s) d1.w) (v := v) (σ := σ')
    ⟨call_ok ok (K_grid_Grid_Up c_grid_Grid_Up ok_grid_Grid_some ok_grid_blank) (L := 100) (n := 2) hc, fun p1 d1 e1 g1 => by
      obtain rfl := uniq_pt e1
      rw [g1.uniq hg]
      exact hT⟩
  exact ⟨x.1, x.2, hx, hP.2 p d rfl hg⟩
end Go.Abs.TA
namespace Go.Abs.TA
open Go Go.Abs Go.Proofs

theorem fitL_len (xs : List api_Cell) (w : Nat) : (fitL xs w).length = w := by
  unfold fitL
  split
  · rw [mend_len]; simp; omega
  · simp; omega
/-- New lines. -/
structure LinesP (τ σ : Heap) (q : Sl) (els : List Sl) (w : Nat) (ls : List (List api_Cell)) : Prop where
  pre : τ <+: σ
  own : q.Own eSl σ els
  new : ∀ c, q.b = some c → τ.length ≤ c
  len : els.length = ls.length
  line : ∀ (i : Nat) (e : Sl) (l : List api_Cell), els[i]? = some e → ls[i]? = some l → e.Own eCell σ l ∧ l.length = w
  newl : ∀ e ∈ els, ∃ c, e.b = some c ∧ τ.length ≤ c ∧ c < σ.length
  nd : (q.b :: els.map (·.b)).Nodup
theorem LinesP.start {τ : Heap} {w : Nat} : LinesP τ τ ⟨none, 0, 0⟩ [] w [] :=
  ⟨List.prefix_rfl, .nil rfl rfl rfl rfl, fun c hc => by simp at hc, rfl, fun i e l h _ => by simp at h, fun e h => by simp at h, by simp⟩
theorem LinesP.push {τ σ0 σ : Heap} {q : Sl} {els : List Sl} {w : Nat} {ls : List (List api_Cell)} (h : LinesP τ σ0 q els w ls) (hp : σ0 <+: σ) {e' : Sl} {l' : List api_Cell} (ho : e'.Own eCell σ l') (hl : l'.length = w) (hw : 1 ≤ w)
    (hc : ∀ c, e'.b = some c → σ0.length ≤ c) (hn : els.length ≤ 1000) :
    ∃ q' σ1, σ.append q.b q.o q.n 1 24 [.slice e'.b e'.o e'.n 6] 1 = some (q', σ1) ∧ LinesP τ σ1 ⟨q'.1, q'.2.1, q'.2.2⟩ (els ++ [e']) w (ls ++ [l']) := by
  obtain ⟨c, hec, _, _, hcr⟩ := own_some ho (by omega)
  have hcl := (List.getElem?_eq_some_iff.1 hcr).1
  have hcτ := hc c hec
  have hpl := hp.length_le
  have hτl := h.pre.length_le
  obtain ⟨q', σ1, k1, k2, k3, k4⟩ := append_own (E := eSl) (h.own.pre hp) (ys := [e']) (bytes := 24) (vs := [.slice e'.b e'.o e'.n 6]) (k := 1) (by simp [eSl, El.all]) rfl (by simp; omega) (by simp; omega)
  have hqn := append_new k1 (by decide)
  obtain ⟨b', hb', _, _⟩ := own_b k2 (by simp)
  have hb'' : q'.1 = some b' := hb'
  have hbn := hqn b' hb''
  have hqe : ∀ e ∈ els, e.b ≠ q.b := fun e he h2 => (List.nodup_cons.1 h.nd).1 (List.mem_map.2 ⟨e, he, h2⟩)
  have hqc : ∀ b, q.b = some b → b < σ0.length := fun b hb => by
    cases h.own with
    | nil z _ _ _ => rw [z] at hb; cases hb
    | row b2 z _ _ zr =>
      rw [z] at hb
      injection hb with hb
      subst hb
      exact (List.getElem?_eq_some_iff.1 zr).1
  refine ⟨q', σ1, k1, ⟨Kept.pre (h.pre.trans hp) k3 (fun c hc => h.new c hc), k2, fun c hc => ?_, by simp [h.len], fun j e l h2 h3 => ?_, fun e he => ?_, ?_⟩⟩
  · have hc : q'.1 = some c := hc
    have := hqn c hc
    omega
  · have key : e.Own eCell σ l ∧ l.length = w ∧ ∀ b, e.b = some b → b < σ.length ∧ q.b ≠ some b := by
      by_cases hj : j < els.length
      · rw [List.getElem?_append_left hj] at h2
        rw [List.getElem?_append_left (by rw [← h.len]; exact hj)] at h3
        obtain ⟨a1, a2⟩ := h.line j e l h2 h3
        obtain ⟨z, z1, z2, z3⟩ := h.newl e (List.mem_of_getElem? h2)
        refine ⟨a1.pre hp, a2, fun b hb => ?_⟩
        rw [z1] at hb
        injection hb with hb
        subst hb
        exact ⟨by omega, fun e2 => hqe e (List.mem_of_getElem? h2) (by rw [z1, e2])⟩
      · rw [List.getElem?_append_right (by omega)] at h2
        rw [List.getElem?_append_right (by rw [← h.len]; omega), ← h.len] at h3
        have hj0 : j - els.length = 0 := by
          have := (List.getElem?_eq_some_iff.1 h2).1
          simp at this
          omega
        rw [hj0] at h2 h3
        simp at h2 h3
        subst h2; subst h3
        refine ⟨ho, hl, fun b hb => ?_⟩
        rw [hec] at hb
        injection hb with hb
        subst hb
        exact ⟨hcl, fun e2 => by have := hqc c e2; omega⟩
    obtain ⟨a1, a2, a3⟩ := key
    exact ⟨own_same a1 fun b hb => k3.at_ b (a3 b hb).1 (a3 b hb).2, a2⟩
  · have hl3 := k3.len
    rcases List.mem_append.1 he with h2 | h2
    · obtain ⟨z, z1, z2, z3⟩ := h.newl e h2
      exact ⟨z, z1, z2, by omega⟩
    · simp only [List.mem_cons, List.mem_nil_iff, or_false] at h2
      subst h2
      exact ⟨c, hec, by omega, by omega⟩
  · simp only [hb'', List.map_append, List.map_cons, List.map_nil, hec]
    refine List.nodup_cons.2 ⟨fun hm => ?_, List.nodup_append.2 ⟨(List.nodup_cons.1 h.nd).2, by simp, fun x hx y hy e2 => ?_⟩⟩
    · simp only [List.mem_append, List.mem_map, List.mem_cons, Option.some.injEq, List.mem_nil_iff, or_false] at hm
      rcases hm with ⟨e, he, h5⟩ | h5
      · obtain ⟨z, z1, z2, z3⟩ := h.newl e he
        rw [z1] at h5
        injection h5 with h5
        omega
      · omega
    · simp only [List.mem_cons, List.mem_nil_iff, or_false] at hy
      subst hy; subst e2
      obtain ⟨e, he, h5⟩ := List.mem_map.1 hx
      obtain ⟨z, z1, z2, z3⟩ := h.newl e he
      rw [z1] at h5
      injection h5 with h5
      omega
theorem Head.set3 {σ : Heap} {p w h w' h' : Nat} {q q' : Sl} (hh : Head σ p w h q) :
    ∃ σ1 σ2, σ.store p 0 [.int .i64 (w' : Int)] = some σ1 ∧ σ1.store p (0 + 1) [.int .i64 (h' : Int)] = some σ2 ∧ σ2.store p (0 + 2) [.slice q'.b q'.o q'.n 1] = some (σ.set p (.row (hd w' h' q') .rw)) := by
  have hl := hh.lt
  refine ⟨σ.set p (.row (hd w' h q) .rw), σ.set p (.row (hd w' h' q) .rw), ?_, ?_, ?_⟩
  · unfold Heap.store
    unfold Head at hh
    rw [hh]
    rfl
  · unfold Heap.store
    rw [List.getElem?_set_self hl]
    simp only [List.set_set]
    rfl
  · unfold Heap.store
    rw [List.getElem?_set_self hl]
    simp only [List.set_set]
    rfl
/-- .. are a grid's. -/
theorem LinesP.grid {τ σ : Heap} {p h w : Nat} {d : GD} {q : Sl} {els : List Sl} {ls : List (List api_Cell)} (g : Grid τ p d) (hL : LinesP τ σ q els w ls) (hw1 : 1 ≤ w) (hw2 : w ≤ 60) (hh : ls.length = h) (hh1 : 1 ≤ h) (hh2 : h ≤ 60) :
    Grid (σ.set p (.row (hd w h q) .rw)) p ⟨q, els, w, ls⟩ ∧ Turn τ p d (σ.set p (.row (hd w h q) .rw)) ⟨q, els, w, ls⟩ ∧ ∀ b, some b ∈ GD.foot ⟨q, els, w, ls⟩ p → b = p ∨ τ.length ≤ b := by
  have hp := g.head.lt
  have hτ := hL.pre.length_le
  subst hh
  have hf : ∀ b, some b ∈ GD.foot ⟨q, els, w, ls⟩ p → b = p ∨ τ.length ≤ b := fun b hb => by
    simp only [GD.foot, List.mem_cons, List.mem_map, Option.some.injEq] at hb
    rcases hb with h1 | h1 | ⟨e, he, h1⟩
    · exact .inl h1
    · exact .inr (hL.new b h1.symm)
    · obtain ⟨z, z1, z2, _⟩ := hL.newl e he
      rw [z1] at h1
      injection h1 with h1
      exact .inr (by omega)
  refine ⟨⟨⟨?_, ?_, hL.len, fun i e l h1 h2 => ?_, fun l hl => ?_, hw1, hw2, ?_⟩, hh1, hh2⟩, ⟨by simp; omega, fun b hb hn => ?_, fun b hb => ?_⟩, hf⟩
  · unfold Head
    rw [List.getElem?_set_self (by omega)]
  · refine own_same hL.own fun b hb => List.getElem?_set_ne ?_
    have := hL.new b hb
    omega
  · refine own_same (hL.line i e l h1 h2).1 fun b hb => List.getElem?_set_ne ?_
    obtain ⟨z, z1, z2, _⟩ := hL.newl e (List.mem_of_getElem? h1)
    rw [z1] at hb
    injection hb with hb
    omega
  · obtain ⟨i, hi⟩ := List.mem_iff_getElem?.1 hl
    have h1 := (List.getElem?_eq_some_iff.1 hi).1
    have h2 : i < els.length := by rw [hL.len]; exact h1
    exact (hL.line i _ l (List.getElem?_eq_getElem h2) hi).2
  · refine List.nodup_cons.2 ⟨fun hm => ?_, hL.nd⟩
    rcases List.mem_cons.1 hm with h1 | h1
    · have := hL.new p h1.symm
      omega
    · obtain ⟨e, he, h2⟩ := List.mem_map.1 h1
      obtain ⟨z, z1, z2, _⟩ := hL.newl e he
      rw [z1] at h2
      injection h2 with h2
      omega
  · rw [List.getElem?_set_ne (fun e => hn (by simp [GD.foot, e])), get_pre hL.pre hb]
  · rcases hf b hb with h1 | h1
    · exact .inl (by simp [GD.foot, h1])
    · exact .inr h1
/-! Resize -/
def resizeL (ls : List (List api_Cell)) (w h a : Nat) : List (List api_Cell) :=
  ((ls.drop a).take h).map (fun l => fitL l w) ++ List.replicate (h - (ls.drop a).length) (List.replicate w bl0)
theorem resizeL_len {ls : List (List api_Cell)} {w h a : Nat} : (resizeL ls w h a).length = h := by
  simp [resizeL]; omega
noncomputable def c_grid_Grid_Resize : C_grid_Grid_Resize := { grid_Fit := w_grid_Fit, grid_blank := w_grid_blank, grid_bring := w_grid_bring }
/-- What Resize leads to. -/
def Resized (τ : Heap) (p : Nat) (d : GD) (w h a : Nat) (r : Option (AVal × Heap)) : Prop :=
  ∃ σ1 v, r = some (.slice v.b v.o v.n 1, σ1) ∧ TurnedOut τ σ1 p d v (resizeL d.ls w h a) (d.ls.take a) w
theorem Resize_end {L : Nat} {τ : Heap} {p w h a : Nat} {d : GD} {x8 away : Int} (g : Grid τ p d) (hw1 : 1 ≤ w) (hw2 : w ≤ 60) (hh1 : 1 ≤ h) (hh2 : h ≤ 60) (ha : a ≤ d.ls.length)
    (hx : (if x8 < (if 0 > away then 0 else away) then x8 else (if 0 > away then 0 else away)) = (a : Int)) :
    ∀ (k m : Nat) (σ : Heap) (q : Sl) (els : List Sl), k < m → k ≤ h - (d.ls.drop a).length → k ≤ h → LinesP τ σ q els w (((d.ls.drop a).take h).map (fun l => fitL l w) ++ List.replicate (h - k - (d.ls.drop a).length) (List.replicate w bl0)) →
      els.length = h - k →
      Resized τ p d w h a (grid_Grid_Resize_L11 (R := AVal × Heap) c_grid_Grid_Resize L m (some (p, 0)) (w : Int) (h : Int) (d.q.b, d.q.o, d.q.n) x8 away q σ (fun v σ => some (v, σ)))
  | k, 0, _, _, _, h, _, _, _, _ => by omega
  | 0, m + 1, σ, q, els, _, hk, _, hL, hel => by
    have hqn : q.n = h := by rw [hL.own.len, hel]; omega
    have hHσ : Head σ p d.w d.ls.length d.q := g.head.same (get_pre hL.pre g.head.lt)
    obtain ⟨σ1, σ2, s1, s2, s3⟩ := hHσ.set3 (w' := w) (h' := h) (q' := q)
    obtain ⟨G1, G2, G3⟩ := hL.grid g hw1 hw2 (h := h) (by rw [← hL.len, hel]; omega) hh1 hh2
    rw [grid_Grid_Resize_L11_eq, hqn, lt_false (Nat.lt_irrefl _), cond_false, hx]
    simp only [Option.bind_some, s1, s2]
    have s3' : σ2.store p (0 + 2) [.slice q.b q.o h 1] = some (σ.set p (.row (hd w h q) .rw)) := by rw [← s3, hqn]
    rw [s3', Option.bind_some, Int.toNat_natCast]
    have hτ := hL.pre.length_le
    have hplt := g.head.lt
    refine ⟨_, ⟨d.q.b, d.q.o, a⟩, rfl, ⟨q, els, w, _⟩, G1, G2, rfl, ?_, ?_⟩
    · unfold resizeL
      rfl
    · have keep : ∀ {α : Type} {E : El α} {s : Sl} {xs : List α}, s.Is E τ xs → (∀ b, s.b = some b → b ≠ p) → s.Is E (σ.set p (.row (hd w h q) .rw)) xs := fun hs hne =>
        (hs.pre hL.pre).of_row fun b cs hb hr => by rw [row?_congr (List.getElem?_set_ne (Ne.symm (hne b hb)))]; exact hr
      have hfr : ∀ c, c < τ.length → c ≠ p → some c ∉ GD.foot ⟨q, els, w, _⟩ p := fun c hc hne hm => by
        rcases G3 c hm with h1 | h1
        · exact hne h1
        · omega
      have r := g.r
      refine ⟨d.els.take a, keep (r.own.take (k := a) (by rw [g.len]; exact ha)) (fun b hb e => g.p_q (by rw [← e]; exact hb)), by simp [g.len], fun c hc => hfr c (r.own.lt hc) (fun e => g.p_q (by rw [← e]; exact hc)), fun i f l hf hl => ?_⟩
      rw [List.getElem?_take] at hf hl
      split at hf
      · rename_i hi
        rw [if_pos hi] at hl
        have hI := r.line i f l hf hl
        exact ⟨keep hI (fun b hb e => g.p_el (List.mem_of_getElem? hf) (by rw [hb, e])), fun c hc => hfr c (hI.lt hc) (fun e => g.p_el (List.mem_of_getElem? hf) (by rw [hc, e]))⟩
      · cases hf
  | k + 1, m + 1, σ, q, els, hm, hk, hkh, hL, hel => by
    have hqn : q.n = h - (k + 1) := by rw [hL.own.len, hel]
    have p1 : c_grid_Grid_Resize.grid_blank = w_grid_blank := rfl
    rw [grid_Grid_Resize_L11_eq, hqn, lt_true (show h - (k + 1) < h by omega), cond_true, p1, w_grid_blank_eq (by omega), Option.bind_some]
    have A := fresh_own eCell σ false (List.replicate w (blankC ⟨false, false, false, 0, 0⟩)) (by simp)
    have AP := fresh_pre eCell σ false (List.replicate w (blankC ⟨false, false, false, 0, 0⟩))
    have AN := fresh_new eCell σ false (List.replicate w (blankC ⟨false, false, false, 0, 0⟩))
    generalize fresh eCell σ false (List.replicate w (blankC ⟨false, false, false, 0, 0⟩)) = x at A AP AN ⊢
    obtain ⟨q', σ1, k1, k2⟩ := hL.push AP A (by simp) hw1 AN (by omega)
    rw [hqn] at k1
    rw [k1, Option.bind_some]
    refine Resize_end (L := L) g hw1 hw2 hh1 hh2 ha hx k m σ1 ⟨q'.1, q'.2.1, q'.2.2⟩ (els ++ [x.1]) (by omega) (by omega) (by omega) ?_ (by simp; omega)
    rw [List.append_assoc] at k2
    rw [show h - k - (d.ls.drop a).length = (h - (k + 1) - (d.ls.drop a).length) + 1 by omega, List.replicate_succ']
    exact k2
theorem Resize_loop {L : Nat} {τ : Heap} {p w h a : Nat} {d : GD} {x8 away : Int} (hL100 : 100 ≤ L) (g : Grid τ p d) (hwide : WideOK τ) (hw1 : 1 ≤ w) (hw2 : w ≤ 60) (hh1 : 1 ≤ h) (hh2 : h ≤ 60) (ha : a ≤ d.ls.length)
    (hx : (if x8 < (if 0 > away then 0 else away) then x8 else (if 0 > away then 0 else away)) = (a : Int)) :
    ∀ (k i m : Nat) (σ : Heap) (q : Sl) (els : List Sl), a + i + k = d.ls.length → k < m → LinesP τ σ q els w (((d.ls.drop a).take (min i h)).map (fun l => fitL l w)) →
      Resized τ p d w h a (grid_Grid_Resize_L6 (R := AVal × Heap) c_grid_Grid_Resize L m (some (p, 0)) (w : Int) (h : Int) (d.q.b, d.q.o, d.q.n) x8 away q (d.q.b, d.q.o, d.q.n) (i : Int) σ (fun v σ => some (v, σ)))
  | k, i, 0, _, _, _, _, h, _ => by omega
  | 0, i, m + 1, σ, q, els, hk, _, hL => by
    have hqn : d.q.n = d.ls.length := by rw [g.own.len, g.len]
    rw [grid_Grid_Resize_L6_eq, hx, hqn, Int.toNat_natCast, lt_false (show ¬ i < d.ls.length - a by omega), cond_false]
    have hel : els.length = min i h := by rw [hL.len]; simp; omega
    have := Resize_end (L := L) g hw1 hw2 hh1 hh2 ha hx (h - min i h) L σ q els (by omega) (by simp; omega) (by omega) (by
      have e1 : (d.ls.drop a).take (min i h) = (d.ls.drop a).take h := by
        by_cases hc : i ≤ h
        · rw [Nat.min_eq_left hc, List.take_of_length_le (by simp; omega), List.take_of_length_le (by simp; omega)]
        · rw [Nat.min_eq_right (by omega)]
      rw [e1] at hL
      rw [show h - (h - min i h) - (d.ls.drop a).length = 0 by simp; omega, List.replicate_zero, List.append_nil]
      exact hL) (by omega)
    rw [hqn] at this
    exact this
  | k + 1, i, m + 1, σ, q, els, hk, hm, hL => by
    have hqn : d.q.n = d.ls.length := by rw [g.own.len, g.len]
    have hg2 := g.h2
    have hi : a + i < d.ls.length := by omega
    have hli := List.getElem?_eq_getElem hi
    obtain ⟨b, e, k1, k2, k3, k4, k5, k6, k7⟩ := (g.r.pre hL.pre).line_at hli
    have hgw2 := g.w2
    have hgw1 := g.w1
    have hel : els.length = min i h := by rw [hL.len]; simp; omega
    have hqq : q.n = min i h := by rw [hL.own.len, hel]
    have p1 : c_grid_Grid_Resize.grid_Fit = w_grid_Fit := rfl
    rw [grid_Grid_Resize_L6_eq, hx, hqn, Int.toNat_natCast, lt_true (show i < d.ls.length - a by omega), dec0, Bool.and_self, cond_true, cond_true, k1, Option.bind_some, Int.toNat_natCast, show d.q.o + a * 1 + i * 1 = d.q.o + (a + i) * 1 by omega, k3, Option.bind_some, hqq, wrap_i64_succ i (by omega)]
    by_cases hih : i < h
    · rw [lt_true (show min i h < h by omega), cond_true, p1, w_grid_Fit_eq k4 (hwide.pre hL.pre) (by omega) (by omega), Option.bind_some]
      obtain ⟨eb, heb, _, _, _⟩ : ∃ eb, e.b = some eb ∧ True ∧ True ∧ True := by
        rcases k4.at_ with ⟨_, _, h0⟩ | ⟨eb, _, h0, _⟩
        · rw [h0] at k5; simp at k5; omega
        · exact ⟨eb, h0, trivial, trivial, trivial⟩
      rw [heb, Int.toNat_natCast]
      have A := fresh_own eCell σ (decide (w ≤ d.ls[a + i].length) && (some eb).isNone) (fitL d.ls[a + i] w) (by simp)
      have AP := fresh_pre eCell σ (decide (w ≤ d.ls[a + i].length) && (some eb).isNone) (fitL d.ls[a + i] w)
      have AN := fresh_new eCell σ (decide (w ≤ d.ls[a + i].length) && (some eb).isNone) (fitL d.ls[a + i] w)
      generalize fresh eCell σ (decide (w ≤ d.ls[a + i].length) && (some eb).isNone) (fitL d.ls[a + i] w) = x at A AP AN ⊢
      obtain ⟨q', σ1, j1, j2⟩ := hL.push AP A (fitL_len _ _) hw1 AN (by omega)
      rw [hqq] at j1
      rw [j1, Option.bind_some]
      have := Resize_loop (L := L) hL100 g hwide hw1 hw2 hh1 hh2 ha hx k (i + 1) m σ1 ⟨q'.1, q'.2.1, q'.2.2⟩ (els ++ [x.1]) (by omega) (by omega) (by
        rw [Nat.min_eq_left (by omega)] at j2 ⊢
        have hd : i < (d.ls.drop a).length := by simp; omega
        rw [List.take_succ_eq_append_getElem hd, List.map_append]
        simpa using j2)
      rw [k1, hqn] at this
      exact this
    · rw [lt_false (show ¬ min i h < h by omega), cond_false]
      have := Resize_loop (L := L) hL100 g hwide hw1 hw2 hh1 hh2 ha hx k (i + 1) m σ q els (by omega) (by omega) (by
        rw [Nat.min_eq_right (by omega)] at hL ⊢
        exact hL)
      rw [k1, hqn] at this
      exact this
def resizeG (ls : List (List api_Cell)) (w h away : Int) : List (List api_Cell) := resizeL ls (bringI w).toNat (bringI h).toNat (topN ls.length away)
noncomputable def w_grid_Grid_Resize (g : Pt) (w h away : Int) (σ : Heap) : Option (Sl × Heap) :=
  wRel fun v σ' => CallOK Tryd.prog T 46 [tPtr.av g, (tInt .i64).av w, (tInt .i64).av h, (tInt .i64).av away] σ ((tSl 1).av v) σ' ∧
    ∀ p d, g = some (p, 0) → Grid σ p d → WideOK σ → TurnedOut σ σ' p d v (resizeG d.ls w h away) (d.ls.take (topN d.ls.length away)) (bringI w).toNat
theorem ok_grid_Grid_Resize : Ok_grid_Grid_Resize w_grid_Grid_Resize := fun _ _ _ _ _ _ _ h => (wRel_some h).1
theorem w_grid_Grid_Resize_ex {p : Nat} {d : GD} {σ : Heap} (hg : Grid σ p d) (hwide : WideOK σ) (w h away : Int) : ∃ v σ', w_grid_Grid_Resize (some (p, 0)) w h away σ = some (v, σ') ∧ TurnedOut σ σ' p d v (resizeG d.ls w h away) (d.ls.take (topN d.ls.length away)) (bringI w).toNat := by
  have hh2 := hg.h2
  have hh1 := hg.h1
  obtain ⟨W, hw1, hw2, eW⟩ := bring_nat w
  obtain ⟨Hh, hb1, hb2, eH⟩ := bring_nat h
  obtain ⟨a, ha, ea⟩ := within_nat away d.ls.length
  have eaT : topN d.ls.length away = a := by unfold topN; rw [ea]; rfl
  have p1 : c_grid_Grid_Resize.grid_bring = w_grid_bring := rfl
  have go : ∃ v σ', callC (R := AVal × Heap) T (O_grid_Grid_Resize c_grid_Grid_Resize) 100 2 46 [.ptr (some (p, 0)), .int .i64 w, .int .i64 h, .int .i64 away] σ (fun v σ => some (v, σ)) = some ((tSl 1).av v, σ') ∧ TurnedOut σ σ' p d v (resizeG d.ls w h away) (d.ls.take (topN d.ls.length away)) (bringI w).toNat := by
    unfold resizeG
    rw [grid_Grid_Resize_eq, p1, eaT, eW, eH]
    simp only [w_grid_bring, Option.bind_some, hg.head.c1, hg.head.c2, Int.toNat_natCast]
    have hqn : d.q.n = d.ls.length := by rw [hg.own.len, hg.len]
    have ea' : (if (d.ls.length : Int) < (if 0 > away then 0 else away) then (d.ls.length : Int) else (if 0 > away then 0 else away)) = (a : Int) := ea
    rw [ea', hqn, dec0, show decide ((a : Int) ≤ (a : Int)) = true by simp, show decide ((a : Int) ≤ (d.ls.length : Int)) = true by simpa using ha, show decide ((d.ls.length : Int) ≤ (d.ls.length : Int)) = true by simp]
    simp only [Bool.and_self]
    rw [cond_true, cond_true, eW, eH]
    obtain ⟨σ1, v, r1, r2⟩ := Resize_loop (L := 100) (x8 := (d.ls.length : Int)) (away := away) (Nat.le_refl _) hg hwide hw1 hw2 hb1 hb2 ha ea' (d.ls.length - a) 0 100 σ ⟨none, 0, 0⟩ [] (by omega) (by omega) (by
      rw [Nat.zero_min, List.take_zero]
      exact LinesP.start)
    rw [hqn] at r1
    exact ⟨v, σ1, r1, r2⟩
  obtain ⟨v, σ', hc, hT⟩ := go
  obtain ⟨x, hx, hP⟩ := wRel_ex (P := fun v σ' => CallOK Tryd.prog T 46 [tPtr.av (some (p, 0)), (tInt .i64).av w, (tInt .i64).av h, (tInt .i64).av away] σ ((tSl 1).av v) σ' ∧
    ∀ p1 d1, (some (p, 0) : Pt) = some (p1, 0) → Grid σ p1 d1 → WideOK σ → TurnedOut σ σ' p1 d1 v (resizeG d1.ls w h away) (d1.ls.take (topN d1.ls.length away)) (bringI w).toNat) (v := v) (σ := σ')
    ⟨call_ok ok (K_grid_Grid_Resize c_grid_Grid_Resize ok_grid_Fit ok_grid_blank ok_grid_bring) (L := 100) (n := 2) hc, fun p1 d1 e1 g1 _ => by
      obtain rfl := uniq_pt e1
      rw [g1.uniq hg]
      exact hT⟩
  exact ⟨x.1, x.2, hx, hP.2 p d rfl hg hwide⟩
end Go.Abs.TA
namespace Go.Abs.TA
open Go Go.Abs Go.Proofs

/-! slices.Equal -/
theorem dec_cons {α : Type} [DecidableEq α] (x y : α) (xs ys : List α) : decide (x :: xs = y :: ys) = (decide (x = y) && decide (xs = ys)) := by
  rw [Bool.eq_iff_iff]
  simp
theorem Equal_loop {L : Nat} {a b : Sl} {σ : Heap} {xs ys : List api_Cell} (ha : a.Is eCell σ xs) (hb : b.Is eCell σ ys) (hl : xs.length = ys.length) :
    ∀ (k i m : Nat), i + k = xs.length → k < m → slices_Equal_L4 (R := AVal × Heap) L m a b (i : Int) σ (fun v σ => some (v, σ)) = some (.bool (decide (xs.drop i = ys.drop i)), σ)
  | k, i, 0, _, h => by omega
  | 0, i, m + 1, h, _ => by
    rw [slices_Equal_L4_eq, ha.n, lt_false (by omega), cond_false, List.drop_eq_nil_of_le (by omega), List.drop_eq_nil_of_le (by omega)]
    rfl
  | k + 1, i, m + 1, h, hm => by
    have hi : i < xs.length := by omega
    have hj : i < ys.length := by omega
    have hsm := ha.small
    obtain ⟨b1, e1, f0, f1, f2, f3, f4, f5⟩ := cell_at ha (List.getElem?_eq_getElem hi)
    obtain ⟨b2, e2, g0, g1, g2, g3, g4, g5⟩ := cell_at hb (List.getElem?_eq_getElem hj)
    rw [slices_Equal_L4_eq, ha.n, hb.n, lt_true hi, lt_true hj, dec0, Bool.and_self]
    simp only [cond_true, e1, Option.bind_some, Int.toNat_natCast, f0, f1, f2, f3, f4, f5, int?, bool?, if_true]
    simp only [e2, Option.bind_some, g0, g1, g2, g3, g4, g5, if_true]
    rw [cell_beq, List.drop_eq_getElem_cons hi, List.drop_eq_getElem_cons hj, wrap_i64_succ i (by omega), dec_cons]
    by_cases hc : xs[i] = ys[i]
    · rw [decide_eq_true hc, Bool.not_true, cond_false, Bool.true_and]
      have := Equal_loop (L := L) ha hb hl k (i + 1) m (by omega) (by omega)
      exact this
    · rw [decide_eq_false hc, Bool.not_false, cond_true]
      rfl
noncomputable def w_slices_Equal (a b : Sl) (σ : Heap) : Option (Bool × Heap) := wOf (fun t : List api_Cell × List api_Cell => a.Is eCell σ t.1 ∧ b.Is eCell σ t.2) fun t => (decide (t.1 = t.2), σ)
theorem w_slices_Equal_eq {a b : Sl} {σ : Heap} {xs ys : List api_Cell} (ha : a.Is eCell σ xs) (hb : b.Is eCell σ ys) : w_slices_Equal a b σ = some (decide (xs = ys), σ) :=
  wOf_eq (x := (xs, ys)) ⟨ha, hb⟩ fun t ht => by
    obtain ⟨x, y⟩ := t
    rw [show x = xs from ht.1.uniq (by decide) ha, show y = ys from ht.2.uniq (by decide) hb]
theorem ok_slices_Equal : Ok_slices_Equal w_slices_Equal := fun a b σ v σ' h => by
  obtain ⟨⟨xs, ys⟩, ⟨ha, hb⟩, e⟩ := wOf_some h
  injection e with e1 e2
  subst e1; subst e2
  simp only at ha hb
  refine call_ok ok known0_ok (L := xs.length + 1) (n := 2) ((slices_Equal_eq (xs.length + 1) a b σ _).trans ?_)
  rw [ha.n, hb.n]
  by_cases hl : xs.length = ys.length
  · rw [show ((xs.length : Int) != (ys.length : Int)) = false by simp [hl], cond_false]
    have := Equal_loop (L := xs.length + 1) ha hb hl xs.length 0 (xs.length + 1) (by omega) (by omega)
    rw [List.drop_zero, List.drop_zero] at this
    exact this
  · rw [show ((xs.length : Int) != (ys.length : Int)) = true by simp; omega, cond_true]
    rw [show decide (xs = ys) = false by simp; intro e; exact hl (by rw [e])]
    rfl
/-! Same -/
noncomputable def c_grid_Same : C_grid_Same := { slices_Equal := w_slices_Equal }
theorem Same_loop {L : Nat} {p p' : Nat} {σ : Heap} {d d' : GD} (ha : GridR σ p d) (hb : GridR σ p' d') (hl : d.ls.length = d'.ls.length) :
    ∀ (k i m : Nat), i + k = d.ls.length → k < m → grid_Same_L4 (R := AVal × Heap) c_grid_Same L m (some (p, 0)) (some (p', 0)) (d.ls.length : Int) (i : Int) σ (fun v σ => some (v, σ)) = some (.bool (decide (d.ls.drop i = d'.ls.drop i)), σ)
  | k, i, 0, _, h => by omega
  | 0, i, m + 1, h, _ => by
    rw [grid_Same_L4_eq, lt_false (by omega), cond_false, List.drop_eq_nil_of_le (by omega), List.drop_eq_nil_of_le (by omega)]
    rfl
  | k + 1, i, m + 1, h, hm => by
    have hi : i < d.ls.length := by omega
    have hj : i < d'.ls.length := by omega
    have hh2 := ha.h2
    obtain ⟨b, e, k1, k2, k3, k4, k5, k6, k7⟩ := ha.line_at (List.getElem?_eq_getElem hi)
    obtain ⟨b', e', j1, j2, j3, j4, j5, j6, j7⟩ := hb.line_at (List.getElem?_eq_getElem hj)
    have p1 : c_grid_Same.slices_Equal = w_slices_Equal := rfl
    rw [grid_Same_L4_eq, lt_true hi, cond_true]
    simp only [Option.bind_some, ha.head.c2, dec0, lt_true k6, Bool.and_self, Int.toNat_natCast, k1, k3]
    rw [cond_true]
    simp only [Option.bind_some, hb.head.c2, lt_true j6, Bool.and_self, j1, j3]
    rw [cond_true, p1, w_slices_Equal_eq k4 j4, Option.bind_some, List.drop_eq_getElem_cons hi, List.drop_eq_getElem_cons hj, wrap_i64_succ i (by omega), dec_cons]
    dsimp only
    by_cases hc : d.ls[i] = d'.ls[i]
    · rw [decide_eq_true hc, Bool.not_true, cond_false, Bool.true_and]
      exact Same_loop (L := L) ha hb hl k (i + 1) m (by omega) (by omega)
    · rw [decide_eq_false hc, Bool.not_false, cond_true]
      rfl
noncomputable def w_grid_Same (a b : Pt) (σ : Heap) : Option (Bool × Heap) := wOf (fun t : (Nat × GD) × (Nat × GD) => (a = some (t.1.1, 0) ∧ GridR σ t.1.1 t.1.2) ∧ (b = some (t.2.1, 0) ∧ GridR σ t.2.1 t.2.2)) fun t => (decide (t.1.2.w = t.2.2.w ∧ t.1.2.ls = t.2.2.ls), σ)
theorem w_grid_Same_eq {p p' : Nat} {σ : Heap} {d d' : GD} (ha : GridR σ p d) (hb : GridR σ p' d') : w_grid_Same (some (p, 0)) (some (p', 0)) σ = some (decide (d.w = d'.w ∧ d.ls = d'.ls), σ) :=
  wOf_eq (x := ((p, d), (p', d'))) ⟨⟨rfl, ha⟩, ⟨rfl, hb⟩⟩ fun t ht => by
    obtain ⟨t1, t2⟩ := t
    rw [show t1 = (p, d) from grid_pt ht.1 ⟨rfl, ha⟩, show t2 = (p', d') from grid_pt ht.2 ⟨rfl, hb⟩]
theorem ok_grid_Same : Ok_grid_Same w_grid_Same := fun a b σ v σ' h => by
  obtain ⟨⟨⟨p, d⟩, ⟨p', d'⟩⟩, ⟨⟨rfl, ha⟩, ⟨rfl, hb⟩⟩, e⟩ := wOf_some h
  injection e with e1 e2
  subst e1; subst e2
  simp only at ha hb
  have hh2 := ha.h2
  refine call_ok ok (K_grid_Same c_grid_Same ok_slices_Equal) (L := 100) (n := 2) ((grid_Same_eq c_grid_Same 100 (some (p, 0)) (some (p', 0)) σ _).trans ?_)
  simp only [Option.bind_some, ha.head.c0, hb.head.c0, ha.head.c1, hb.head.c1]
  by_cases hw : d.w = d'.w
  · rw [show ((d.w : Int) != (d'.w : Int)) = false by simp [hw], cond_false]
    by_cases hl : d.ls.length = d'.ls.length
    · rw [show ((d.ls.length : Int) != (d'.ls.length : Int)) = false by simp [hl], cond_false]
      have := Same_loop (L := 100) ha hb hl d.ls.length 0 100 (by omega) (by omega)
      rw [List.drop_zero, List.drop_zero] at this
      rw [show decide (d.w = d'.w ∧ d.ls = d'.ls) = decide (d.ls = d'.ls) by simp [hw]]
      exact this
    · rw [show ((d.ls.length : Int) != (d'.ls.length : Int)) = true by simp; omega, cond_true]
      rw [show decide (d.w = d'.w ∧ d.ls = d'.ls) = false by simp; intro _ e; exact hl (by rw [e])]
      rfl
  · rw [show ((d.w : Int) != (d'.w : Int)) = true by simp; omega, cond_true]
    rw [show decide (d.w = d'.w ∧ d.ls = d'.ls) = false by simp [hw]]
    rfl
/-! whole -/
noncomputable def c_law09_whole : C_law09_whole := { cell_Whole := w_cell_Whole }
theorem whole_loop {L : Nat} {p : Nat} {σ : Heap} {d : GD} (g : GridR σ p d) (hw : WideOK σ) :
    ∀ (k i m : Nat), i + k = d.ls.length → k < m → law09_whole_L2 (R := AVal × Heap) c_law09_whole L m (some (p, 0)) (d.q.b, d.q.o, d.q.n) (i : Int) σ (fun v σ => some (v, σ)) = some (.bool ((d.ls.drop i).all whole), σ)
  | k, i, 0, _, h => by omega
  | 0, i, m + 1, h, _ => by
    have hqn : d.q.n = d.ls.length := by rw [g.own.n, g.len]
    have hw1 := g.w1
    have hw2 := g.w2
    have hh1 := g.h1
    have hh2 := g.h2
    rw [law09_whole_L2_eq, hqn, lt_false (show ¬ i < d.ls.length by omega), cond_false, List.drop_eq_nil_of_le (by omega)]
    simp only [Option.bind_some, g.head.c2, g.head.c1, g.head.c0, hqn]
    rw [show (((d.ls.length : Nat) : Int) == (d.ls.length : Int)) = true by simp, cond_true, show decide ((d.w : Int) ≥ 1) = true by simp; omega, cond_true, show decide ((d.ls.length : Int) ≥ 1) = true by simp; omega, cond_true, show decide ((d.w : Int) ≤ 60) = true by simp; omega, cond_true, show decide ((d.ls.length : Int) ≤ 60) = true by simp; omega]
    rfl
  | k + 1, i, m + 1, h, hm => by
    have hi : i < d.ls.length := by omega
    have hh2 := g.h2
    have hw2 := g.w2
    have hqn : d.q.n = d.ls.length := by rw [g.own.n, g.len]
    obtain ⟨b, e, k1, k2, k3, k4, k5, k6, k7⟩ := g.line_at (List.getElem?_eq_getElem hi)
    have p1 : c_law09_whole.cell_Whole = w_cell_Whole := rfl
    have ih := whole_loop (L := L) g hw k (i + 1) m (by omega) (by omega)
    have hen : e.n = d.w := by rw [k4.n, k5]
    rw [law09_whole_L2_eq, lt_true k6, dec0, Bool.and_self, cond_true, cond_true, k1, Option.bind_some, Int.toNat_natCast, k3, Option.bind_some]
    simp only [Option.bind_some, g.head.c0, hen]
    rw [show ((d.w : Int) != (d.w : Int)) = false by simp, cond_false, p1]
    have k4' : Sl.Is ⟨e.b, e.o, d.w⟩ eCell σ d.ls[i] := by rw [← hen]; exact k4
    rw [w_cell_Whole_eq k4' hw, Option.bind_some, List.drop_eq_getElem_cons hi, wrap_i64_succ i (by omega), List.all_cons]
    dsimp only
    cases whole d.ls[i] with
    | false =>
      rw [Bool.not_false, cond_true]
      rfl
    | true =>
      rw [Bool.not_true, cond_false, Bool.true_and, ← k1]
      exact ih
noncomputable def w_law09_whole (g : Pt) (σ : Heap) : Option (Bool × Heap) := wOf (fun t : Nat × GD => (g = some (t.1, 0) ∧ GridR σ t.1 t.2) ∧ WideOK σ) fun t => (t.2.ls.all whole, σ)
theorem w_law09_whole_eq {p : Nat} {σ : Heap} {d : GD} (hg : GridR σ p d) (hw : WideOK σ) : w_law09_whole (some (p, 0)) σ = some (d.ls.all whole, σ) :=
  wOf_eq (x := (p, d)) ⟨⟨rfl, hg⟩, hw⟩ fun t ht => by rw [grid_pt ht.1 (t' := (p, d)) ⟨rfl, hg⟩]
theorem ok_law09_whole : Ok_law09_whole w_law09_whole := fun g σ v σ' h => by
  obtain ⟨⟨p, d⟩, ⟨⟨rfl, hg⟩, hw⟩, e⟩ := wOf_some h
  injection e with e1 e2
  subst e1; subst e2
  simp only at hg
  have hh2 := hg.h2
  refine call_ok ok (K_law09_whole c_law09_whole ok_cell_Whole) (L := 100) (n := 2) ((law09_whole_eq c_law09_whole 100 (some (p, 0)) σ _).trans ?_)
  simp only [Option.bind_some, hg.head.c2]
  exact whole_loop (L := 100) hg hw d.ls.length 0 100 (by omega) (by omega)
theorem good_all {ls : List (List api_Cell)} (h : Good ls) : ls.all whole = true := List.all_eq_true.2 fun l hl => (h l hl).2
/-! tame, kind -/
def tameS (s : api_Style) : api_Style := bif okS s then s else ⟨false, false, false, 0, 0⟩
theorem okS_tame (s : api_Style) : okS (tameS s) = true := by
  unfold tameS
  cases h : okS s with
  | true => exact h
  | false => rfl
def c_law09_tame : C_law09_tame := { cell_Style := w_cell_Style }
def w_law09_tame (s : api_Style) (σ : Heap) : Option (api_Style × Heap) := some (tameS s, σ)
theorem ok_law09_tame : Ok_law09_tame w_law09_tame := fun s σ v σ' h => by
  injection h with h; injection h with h1 h2; subst h1; subst h2
  refine call_ok ok (K_law09_tame c_law09_tame ok_cell_Style) (L := 0) (n := 2) ((law09_tame_eq c_law09_tame 0 s σ _).trans ?_)
  have p1 : c_law09_tame.cell_Style = w_cell_Style := rfl
  rw [p1]
  simp only [w_cell_Style, Option.bind_some]
  unfold tameS
  cases okS s <;> rfl
def kindI (dd : law09_Deed) : Int := Int.tmod (IntKind.i64.wrap (BitVec.ofInt IntKind.i64.bits dd.Kind &&& BitVec.ofInt IntKind.i64.bits 65535).toNat) 7
def w_law09_Deed_kind (dd : law09_Deed) (σ : Heap) : Option (Int × Heap) := some (kindI dd, σ)
theorem ok_law09_Deed_kind : Ok_law09_Deed_kind w_law09_Deed_kind := fun dd σ v σ' h => by
  injection h with h; injection h with h1 h2; subst h1; subst h2
  exact call_ok ok known0_ok (L := 0) (n := 2) (law09_Deed_kind_eq 0 dd σ _)
/-! do -/
def doW (w : Nat) (dd : law09_Deed) : Nat :=
  bif kindI dd == 0 then w else bif kindI dd == 1 then w else bif kindI dd == 2 then w else bif kindI dd == 3 then w else bif kindI dd == 4 then w else bif kindI dd == 5 then w else (bringI dd.A).toNat
def doL (w : Nat) (ls : List (List api_Cell)) (dd : law09_Deed) : List (List api_Cell) :=
  bif kindI dd == 0 then putG w ls dd.A dd.B dd.Cell else bif kindI dd == 1 then clearG w ls dd.A dd.B dd.C (tameS dd.Cell.Style) else bif kindI dd == 2 then upG w ls dd.A dd.B dd.C (tameS dd.Cell.Style)
  else bif kindI dd == 3 then downG w ls dd.A dd.B dd.C (tameS dd.Cell.Style) else bif kindI dd == 4 then openG w ls dd.A dd.B dd.C (tameS dd.Cell.Style) else bif kindI dd == 5 then shutG w ls dd.A dd.B dd.C (tameS dd.Cell.Style)
  else resizeG ls dd.A dd.B dd.C
def doO (w : Nat) (ls : List (List api_Cell)) (dd : law09_Deed) : List (List api_Cell) :=
  bif kindI dd == 0 then [] else bif kindI dd == 1 then [] else bif kindI dd == 2 then upO w ls dd.A dd.B dd.C (tameS dd.Cell.Style)
  else bif kindI dd == 3 then [] else bif kindI dd == 4 then [] else bif kindI dd == 5 then [] else ls.take (topN ls.length dd.C)
theorem Turned.out {σ σ' : Heap} {p : Nat} {d : GD} {ls' : List (List api_Cell)} (t : Turned σ σ' p d ls') : TurnedOut σ σ' p d ⟨none, 0, 0⟩ ls' [] d.w := by
  obtain ⟨d', h1, h2, h3, h4⟩ := t
  exact ⟨d', h1, h2, h3, h4, [], Sl.Is.nil, rfl, fun c hc => by simp at hc, fun i f l hf _ => by simp at hf⟩
noncomputable def c_law09_do : C_law09_do := { law09_tame := w_law09_tame, law09_Deed_kind := w_law09_Deed_kind, grid_Grid_Put := w_grid_Grid_Put, grid_Grid_Clear := w_grid_Grid_Clear, grid_Grid_Up := w_grid_Grid_Up, grid_Grid_Down := w_grid_Grid_Down, grid_Grid_Open := w_grid_Grid_Open, grid_Grid_Shut := w_grid_Grid_Shut, grid_Grid_Resize := w_grid_Grid_Resize }
noncomputable def w_law09_do (g : Pt) (dd : law09_Deed) (σ : Heap) : Option (Sl × Heap) :=
  wRel fun v σ' => CallOK Tryd.prog T 50 [tPtr.av g, t_law09_Deed.av dd] σ ((tSl 1).av v) σ' ∧
    ∀ p d, g = some (p, 0) → Grid σ p d → WideOK σ → TurnedOut σ σ' p d v (doL d.w d.ls dd) (doO d.w d.ls dd) (doW d.w dd)
theorem ok_law09_do : Ok_law09_do w_law09_do := fun _ _ _ _ _ h => (wRel_some h).1
theorem w_law09_do_ex {p : Nat} {d : GD} {σ : Heap} (hg : Grid σ p d) (hw : WideOK σ) (dd : law09_Deed) : ∃ v σ', w_law09_do (some (p, 0)) dd σ = some (v, σ') ∧ TurnedOut σ σ' p d v (doL d.w d.ls dd) (doO d.w d.ls dd) (doW d.w dd) := by
  have p1 : c_law09_do.law09_tame = w_law09_tame := rfl
  have p2 : c_law09_do.law09_Deed_kind = w_law09_Deed_kind := rfl
  have p3 : c_law09_do.grid_Grid_Put = w_grid_Grid_Put := rfl
  have p4 : c_law09_do.grid_Grid_Clear = w_grid_Grid_Clear := rfl
  have p5 : c_law09_do.grid_Grid_Up = w_grid_Grid_Up := rfl
  have p6 : c_law09_do.grid_Grid_Down = w_grid_Grid_Down := rfl
  have p7 : c_law09_do.grid_Grid_Open = w_grid_Grid_Open := rfl
  have p8 : c_law09_do.grid_Grid_Shut = w_grid_Grid_Shut := rfl
  have p9 : c_law09_do.grid_Grid_Resize = w_grid_Grid_Resize := rfl
  have go : ∃ v σ', callC (R := AVal × Heap) T (O_law09_do c_law09_do) 0 2 50 [.ptr (some (p, 0)), .agg [.int .i64 dd.Kind, .int .i64 dd.A, .int .i64 dd.B, .int .i64 dd.C, .int .i32 dd.Cell.Rune, .bool dd.Cell.Style.Bold, .bool dd.Cell.Style.Under, .bool dd.Cell.Style.Turned, .int .i64 dd.Cell.Style.Fore, .int .i64 dd.Cell.Style.Back]] σ (fun v σ => some (v, σ)) = some ((tSl 1).av v, σ') ∧ TurnedOut σ σ' p d v (doL d.w d.ls dd) (doO d.w d.ls dd) (doW d.w dd) := by
    rw [law09_do_eq, p1, p2, p3, p4, p5, p6, p7, p8, p9]
    simp only [w_law09_tame, w_law09_Deed_kind, Option.bind_some]
    unfold doL doO doW
    cases kindI dd == 0 with
    | true =>
      obtain ⟨σ', e1, e2⟩ := w_grid_Grid_Put_ex hg hw dd.A dd.B dd.Cell
      simp only [cond_true, e1, Option.bind_some]
      exact ⟨⟨none, 0, 0⟩, σ', rfl, e2.out⟩
    | false =>
      simp only [cond_false]
      cases kindI dd == 1 with
      | true =>
        obtain ⟨σ', e1, e2⟩ := w_grid_Grid_Clear_ex hg hw dd.A dd.B dd.C (tameS dd.Cell.Style)
        simp only [cond_true, e1, Option.bind_some]
        exact ⟨⟨none, 0, 0⟩, σ', rfl, e2.out⟩
      | false =>
        simp only [cond_false]
        cases kindI dd == 2 with
        | true =>
          obtain ⟨v, σ', e1, e2⟩ := w_grid_Grid_Up_ex hg dd.A dd.B dd.C (tameS dd.Cell.Style)
          simp only [cond_true, e1, Option.bind_some]
          exact ⟨v, σ', rfl, e2⟩
        | false =>
          simp only [cond_false]
          cases kindI dd == 3 with
          | true =>
            obtain ⟨σ', e1, e2⟩ := w_grid_Grid_Down_ex hg dd.A dd.B dd.C (tameS dd.Cell.Style)
            simp only [cond_true, e1, Option.bind_some]
            exact ⟨⟨none, 0, 0⟩, σ', rfl, e2.out⟩
          | false =>
            simp only [cond_false]
            cases kindI dd == 4 with
            | true =>
              obtain ⟨σ', e1, e2⟩ := w_grid_Grid_Open_ex hg hw dd.A dd.B dd.C (tameS dd.Cell.Style)
              simp only [cond_true, e1, Option.bind_some]
              exact ⟨⟨none, 0, 0⟩, σ', rfl, e2.out⟩
            | false =>
              simp only [cond_false]
              cases kindI dd == 5 with
              | true =>
                obtain ⟨σ', e1, e2⟩ := w_grid_Grid_Shut_ex hg hw dd.A dd.B dd.C (tameS dd.Cell.Style)
                simp only [cond_true, e1, Option.bind_some]
                exact ⟨⟨none, 0, 0⟩, σ', rfl, e2.out⟩
              | false =>
                obtain ⟨v, σ', e1, e2⟩ := w_grid_Grid_Resize_ex hg hw dd.A dd.B dd.C
                simp only [cond_false, e1, Option.bind_some]
                exact ⟨v, σ', rfl, e2⟩
  obtain ⟨v, σ', hc, hT⟩ := go
  obtain ⟨x, hx, hP⟩ := wRel_ex (P := fun v σ' => CallOK Tryd.prog T 50 [tPtr.av (some (p, 0)), t_law09_Deed.av dd] σ ((tSl 1).av v) σ' ∧
    ∀ p1 d1, (some (p, 0) : Pt) = some (p1, 0) → Grid σ p1 d1 → WideOK σ → TurnedOut σ σ' p1 d1 v (doL d1.w d1.ls dd) (doO d1.w d1.ls dd) (doW d1.w dd)) (v := v) (σ := σ')
    ⟨call_ok ok (K_law09_do c_law09_do ok_grid_Grid_Up ok_grid_Grid_Down ok_grid_Grid_Resize ok_grid_Grid_Put ok_law09_tame ok_law09_Deed_kind ok_grid_Grid_Clear ok_grid_Grid_Open ok_grid_Grid_Shut) (L := 0) (n := 2) hc, fun p1 d1 e1 g1 _ => by
      obtain rfl := uniq_pt e1
      rw [g1.uniq hg]
      exact hT⟩
  exact ⟨x.1, x.2, hx, hP.2 p d rfl hg hw⟩
end Go.Abs.TA
