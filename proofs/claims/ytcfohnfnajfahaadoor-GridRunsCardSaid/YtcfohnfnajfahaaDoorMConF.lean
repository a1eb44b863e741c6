/-
Lines that are right; contract of the grid laws' Fill.
-/
import Derived.Test.YtcfohnfnajfahaaDoorMConE
namespace Go.Abs.TA
open Go Go.Abs Go.Proofs

/-- Lines that are whole, with cells that are right. -/
def Good (ls : List (List api_Cell)) : Prop := ∀ l ∈ ls, Tamed l ∧ whole l = true
theorem good_set {ls : List (List api_Cell)} {y : Nat} {l : List api_Cell} (h : Good ls) (h1 : Tamed l) (h2 : whole l = true) : Good (ls.set y l) := fun x hx => by
  rcases List.mem_or_eq_of_mem_set hx with h3 | h3
  · exact h x h3
  · rw [h3]; exact ⟨h1, h2⟩
theorem good_atLine {ls : List (List api_Cell)} {y : Int} {f : List api_Cell → List api_Cell} (h : Good ls) (hf : ∀ l ∈ ls, Tamed (f l) ∧ whole (f l) = true) : Good (atLine ls y f) := by
  unfold atLine
  split
  · cases hl : ls[y.toNat]? with
    | none => exact h
    | some l => exact good_set h (hf l (List.mem_of_getElem? hl)).1 (hf l (List.mem_of_getElem? hl)).2
  · exact h
theorem tamed_set {l : List api_Cell} {i : Nat} {c : api_Cell} (h : Tamed l) (hc : okS c.Style = true ∧ (c.Rune = 0 ∨ rightR c.Rune = true)) : Tamed (l.set i c) := fun x hx => by
  rcases List.mem_or_eq_of_mem_set hx with h3 | h3
  · exact h x h3
  · rw [h3]; exact hc
theorem tamed_put {l : List api_Cell} {x : Nat} {c : api_Cell} (h : Tamed l) (hc : rightC c = true) : Tamed (putL l x c) := by
  unfold rightC at hc
  rw [Bool.and_eq_true] at hc
  unfold putL
  refine tamed_mend ?_
  have h1 : Tamed (l.set x c) := tamed_set h ⟨hc.2, .inr hc.1⟩
  cases wide c.Rune
  · exact h1
  · rw [cond_true]
    split
    · exact tamed_set h1 ⟨hc.2, .inl rfl⟩
    · exact h1
theorem whole_put {l : List api_Cell} {x : Nat} {c : api_Cell} (h : Tamed l) (hc : rightC c = true) : whole (putL l x c) = true := by
  have hc' := hc
  unfold rightC at hc
  rw [Bool.and_eq_true] at hc
  unfold putL
  refine whole_mend ?_
  have h1 : Tamed (l.set x c) := tamed_set h ⟨hc.2, .inr hc.1⟩
  cases wide c.Rune
  · exact h1
  · rw [cond_true]
    split
    · exact tamed_set h1 ⟨hc.2, .inl rfl⟩
    · exact h1
theorem good_put {w : Nat} {ls : List (List api_Cell)} {x y : Int} {c : api_Cell} (h : Good ls) : Good (putG w ls x y c) := by
  unfold putG
  cases ht : thereB x y w ls.length && rightC c with
  | false => exact h
  | true =>
    rw [Bool.and_eq_true] at ht
    exact good_atLine h fun l hl => ⟨tamed_put (h l hl).1 ht.2, whole_put (h l hl).1 ht.2⟩
theorem atLine_len {ls : List (List api_Cell)} {y : Int} {f : List api_Cell → List api_Cell} : (atLine ls y f).length = ls.length := by
  unfold atLine
  split
  · cases ls[y.toNat]? <;> simp
  · rfl
theorem put_len {w : Nat} {ls : List (List api_Cell)} {x y : Int} {c : api_Cell} : (putG w ls x y c).length = ls.length := by
  unfold putG
  cases thereB x y w ls.length && rightC c
  · rfl
  · exact atLine_len
theorem tamed_blank {s : api_Style} (h : okS s = true) (n : Nat) : Tamed (List.replicate n (blankC s)) := fun c hc => by
  rw [(List.mem_replicate.1 hc).2]
  refine ⟨?_, .inr (by show rightR 32 = true; decide)⟩
  unfold okS at h ⊢
  simp only [decide_eq_true_eq] at h ⊢
  exact ⟨Int.le_refl 0, by show (0 : Int) ≤ 8; decide, h.2.2⟩
theorem mend_blank (s : api_Style) (n : Nat) : mend (List.replicate n (blankC s)) = List.replicate n (blankC s) := by
  apply List.ext_getElem?
  intro i
  by_cases hi : i < n
  · have hx : (List.replicate n (blankC s))[i]? = some (blankC s) := by rw [List.getElem?_replicate, if_pos hi]
    rw [mend_get hx, hx]
    unfold mendAt
    split <;> rfl
  · rw [List.getElem?_eq_none (by rw [mend_len]; simp; omega), List.getElem?_eq_none (by simp; omega)]
theorem whole_blank {s : api_Style} (h : okS s = true) (n : Nat) : whole (List.replicate n (blankC s)) = true := by
  have := whole_mend (tamed_blank h n)
  rwa [mend_blank] at this
theorem good_blank {s : api_Style} (h : okS s = true) (n m : Nat) : Good (List.replicate m (List.replicate n (blankC s))) := fun l hl => by
  rw [(List.mem_replicate.1 hl).2]
  exact ⟨tamed_blank h n, whole_blank h n⟩
/-! Fill -/
noncomputable def c_law09_Fill : C_law09_Fill := { law08_Tame := w_law08_Tame, ref07_Wide := w_ref07_Wide, grid_New := w_grid_New, grid_Grid_Put := w_grid_Grid_Put }
theorem Fill_loop {L : Nat} {p : Nat} {ts : Sl} {tl : List api_Cell} :
    ∀ (k j m : Nat) (i : Int) (σ : Heap) (d : GD), j + k = tl.length → k < m → tl.length ≤ 1000000 → Grid σ p d → WideOK σ → Good d.ls → ts.Is eCell σ tl → (∀ c, ts.b = some c → c < σ.length ∧ some c ∉ d.foot p) →
      ∃ σ1 d1, Grid σ1 p d1 ∧ Turn σ p d σ1 d1 ∧ Good d1.ls ∧ d1.w = d.w ∧ d1.ls.length = d.ls.length ∧
        law09_Fill_L4 (R := AVal × Heap) c_law09_Fill L m (some (p, 0)) i ts (tl.length : Int) (j : Int) σ (fun v σ => some (v, σ)) = some (.ptr (some (p, 0)), σ1)
  | k, j, 0, _, _, _, _, h, _, _, _, _, _, _ => by omega
  | 0, j, m + 1, i, σ, d, hk, _, _, hg, hw, hG, ht, ha => by
    have e : j = tl.length := by omega
    subst e
    refine ⟨σ, d, hg, Turn.refl, hG, rfl, rfl, ?_⟩
    rw [law09_Fill_L4_eq, lt_false (Nat.lt_irrefl _)]
    rfl
  | k + 1, j, m + 1, i, σ, d, hk, hm, hl, hg, hw, hG, ht, ha => by
    have hj : j < tl.length := by omega
    obtain ⟨b, hb, f0, f1, f2, f3, f4, f5⟩ := cell_at ht (List.getElem?_eq_getElem hj)
    have p1 : c_law09_Fill.grid_Grid_Put = w_grid_Grid_Put := rfl
    have p2 : c_law09_Fill.ref07_Wide = w_ref07_Wide := rfl
    have hw1 := hg.w1
    rw [law09_Fill_L4_eq, lt_true hj, ht.n, lt_true hj, dec0, Bool.and_self]
    simp only [cond_true, hb, Option.bind_some, Int.toNat_natCast, f0, f1, f2, f3, f4, f5, int?, bool?, if_true]
    have h0 := hg.head.c0
    have h1 := hg.head.c1
    simp only [int?] at h0 h1
    rw [h0, h1]
    simp only [Option.bind_some]
    cases hc : decide (i ≥ IntKind.i64.wrap ((d.w : Int) * (d.ls.length : Int))) with
    | true =>
      refine ⟨σ, d, hg, Turn.refl, hG, rfl, rfl, ?_⟩
      rw [cond_true]
    | false =>
      rw [cond_false, if_neg (by omega), if_neg (by omega), p1]
      obtain ⟨σ', e1, d', g', t', e2, e3⟩ := w_grid_Grid_Put_ex hg hw (Int.tmod i (d.w : Int)) (IntKind.i64.wrap (Int.tdiv i (d.w : Int))) tl[j]
      have ht' : ts.Is eCell σ' tl := ht.of_row fun b' cs hb' hr => by
        obtain ⟨a1, a2⟩ := ha b' hb'
        rw [row?_congr (t'.at_ b' a1 a2)]
        exact hr
      have ha' : ∀ c, ts.b = some c → c < σ'.length ∧ some c ∉ d'.foot p := fun c hc => by
        obtain ⟨a1, a2⟩ := ha c hc
        have := t'.len
        refine ⟨by omega, fun hm => ?_⟩
        rcases t'.foot c hm with h3 | h3
        · exact a2 h3
        · omega
      have hG' : Good d'.ls := by rw [e3]; exact good_put hG
      have hlen : d'.ls.length = d.ls.length := by rw [e3, put_len]
      rw [show (⟨tl[j].Rune, ⟨tl[j].Style.Bold, tl[j].Style.Under, tl[j].Style.Turned, tl[j].Style.Fore, tl[j].Style.Back⟩⟩ : api_Cell) = tl[j] from rfl, e1, Option.bind_some, p2]
      simp only [w_ref07_Wide, Option.bind_some]
      rw [wrap_i64_succ j (by omega)]
      have recur : ∀ i', ∃ σ1 d1, Grid σ1 p d1 ∧ Turn σ p d σ1 d1 ∧ Good d1.ls ∧ d1.w = d.w ∧ d1.ls.length = d.ls.length ∧
        law09_Fill_L4 (R := AVal × Heap) c_law09_Fill L m (some (p, 0)) i' ts (tl.length : Int) ((j + 1 : Nat) : Int) σ' (fun v σ => some (v, σ)) = some (.ptr (some (p, 0)), σ1) := fun i' => by
        obtain ⟨σ1, d1, c1, c2, c3, c4, c5, c6⟩ := Fill_loop (L := L) k (j + 1) m i' σ' d' (by omega) (by omega) hl g' (t'.wide hg.toGridP hw) hG' ht' ha'
        exact ⟨σ1, d1, c1, t'.trans c2, c3, c4.trans e2, c5.trans hlen, c6⟩
      cases wide tl[j].Rune with
      | true =>
        obtain ⟨σ1, d1, c1, c2, c3, c4, c5, c6⟩ := recur (IntKind.i64.wrap (IntKind.i64.wrap (i + 1) + 1))
        refine ⟨σ1, d1, c1, c2, c3, c4, c5, ?_⟩
        rw [cond_true]
        exact c6
      | false =>
        obtain ⟨σ1, d1, c1, c2, c3, c4, c5, c6⟩ := recur (IntKind.i64.wrap (i + 1))
        refine ⟨σ1, d1, c1, c2, c3, c4, c5, ?_⟩
        rw [cond_false]
        exact c6
/-- What Fill answers. -/
def Filled (σ σ' : Heap) (w h : Int) (v : Pt) : Prop := ∃ p d, Made σ σ' v p d ∧ d.w = (bringI w).toNat ∧ d.ls.length = (bringI h).toNat ∧ Good d.ls
noncomputable def w_law09_Fill (w h : Int) (l : Sl) (σ : Heap) : Option (Pt × Heap) :=
  wRel fun v σ' => CallOK Tryd.prog T 36 [(tInt .i64).av w, (tInt .i64).av h, (tSl 6).av l] σ (tPtr.av v) σ' ∧
    (WideOK σ → (∃ xs, l.Is eCell σ xs ∧ xs.length ≤ 1000000) → Filled σ σ' w h v)
theorem ok_law09_Fill : Ok_law09_Fill w_law09_Fill := fun _ _ _ _ _ _ h => (wRel_some h).1
theorem Made.grow {σ σ1 σ2 : Heap} {v : Pt} {p : Nat} {d d' : GD} (m : Made σ σ1 v p d) (t : Turn σ1 p d σ2 d') (g : Grid σ2 p d') : Made σ σ2 v p d' :=
  ⟨m.at_, g, t.pre m.pre m.new, fun b hb => by
    have := m.pre.length_le
    rcases t.foot b hb with h | h
    · exact m.new b h
    · omega⟩
theorem w_law09_Fill_ex {w h : Int} {l : Sl} {σ : Heap} {xs : List api_Cell} (hl : l.Is eCell σ xs) (hx : xs.length ≤ 1000000) (hw : WideOK σ) :
    ∃ p σ' d, w_law09_Fill w h l σ = some (some (p, 0), σ') ∧ Made σ σ' (some (p, 0)) p d ∧ d.w = (bringI w).toNat ∧ d.ls.length = (bringI h).toNat ∧ Good d.ls := by
  have p1 : c_law09_Fill.grid_New = w_grid_New := rfl
  have p2 : c_law09_Fill.law08_Tame = w_law08_Tame := rfl
  have go : ∃ v σ', callC (R := AVal × Heap) T (O_law09_Fill c_law09_Fill) 1000001 2 36 [.int .i64 w, .int .i64 h, .slice l.b l.o l.n 6] σ (fun v σ => some (v, σ)) = some (tPtr.av v, σ') ∧ Filled σ σ' w h v := by
    obtain ⟨p, σ1, d, e1, m1, e2, e3⟩ := w_grid_New_ex w h σ
    rw [law09_Fill_eq, p1, e1, Option.bind_some]
    dsimp only
    have hl1 := hl.pre m1.pre
    rw [p2, w_law08_Tame_eq hl1 hx, Option.bind_some]
    have hnil : decide (xs = []) = true → xs.map tameC = [] := by
      intro h
      simp at h
      rw [h]; rfl
    have A := fresh_own eCell σ1 (decide (xs = [])) (xs.map tameC) hnil
    have AP := fresh_pre eCell σ1 (decide (xs = [])) (xs.map tameC)
    have AN := fresh_new eCell σ1 (decide (xs = [])) (xs.map tameC)
    generalize fresh eCell σ1 (decide (xs = [])) (xs.map tameC) = q5 at A AP AN ⊢
    have hlen : (xs.map tameC).length = xs.length := by simp
    have I5 := A.is (by omega)
    rw [I5.n]
    have g5 := m1.grid.pre AP
    obtain ⟨σ2, d2, c1, c2, c3, c4, c5, c6⟩ := Fill_loop (L := 1000001) (xs.map tameC).length 0 1000001 0 q5.2 d (by omega) (by omega) (by omega) g5 ((hw.pre m1.pre).pre AP) (by rw [e3]; exact good_blank (by decide) _ _) I5 (fun c hc => ⟨I5.lt hc, fun hm => by
      have := m1.grid.foot_lt hm
      have := AN c hc
      omega⟩)
    refine ⟨some (p, 0), σ2, c6, p, d2, Made.grow ⟨rfl, g5, m1.pre.trans AP, m1.new⟩ c2 c1, c4.trans e2, c5.trans ?_, c3⟩
    rw [e3]; simp
  obtain ⟨v, σ', hc, hF⟩ := go
  obtain ⟨x, hx', hP⟩ := wRel_ex (P := fun v σ' => CallOK Tryd.prog T 36 [(tInt .i64).av w, (tInt .i64).av h, (tSl 6).av l] σ (tPtr.av v) σ' ∧
    (WideOK σ → (∃ xs, l.Is eCell σ xs ∧ xs.length ≤ 1000000) → Filled σ σ' w h v)) (v := v) (σ := σ')
    ⟨call_ok ok (K_law09_Fill c_law09_Fill ok_law08_Tame ok_ref07_Wide ok_grid_New ok_grid_Grid_Put) (L := 1000001) (n := 2) hc, fun _ _ => hF⟩
  obtain ⟨p, d, m, h1, h2, h3⟩ := hP.2 hw ⟨xs, hl, hx⟩
  obtain ⟨v1, σ1⟩ := x
  have := m.at_
  simp only at this
  subst this
  exact ⟨p, σ1, d, hx', m, h1, h2, h3⟩
end Go.Abs.TA
