/-
Whatever is done, lines are right and whole.
Deeds in memory.
Contract of the grid laws' equal.
-/
import Derived.Test.YtcfohnfnajfahaaDoorMConG
import Derived.Test.YtcfohnfnajfahaaDoorLawGF
import Derived.Test.YtcfohnfnajfahaaDoorMConA
import Derived.Test.YtcfohnfnajfahaaDoorEqA6
namespace Go.Abs.TA
open Go Go.Abs Go.Proofs

theorem mem_over {α : Type} {xs ys : List α} {i : Nat} {x : α} (h : x ∈ over xs i ys) : x ∈ xs ∨ x ∈ ys := by
  unfold over at h
  rcases List.mem_append.1 h with h | h
  · rcases List.mem_append.1 h with h | h
    · exact .inl (List.mem_of_mem_take h)
    · exact .inr h
  · exact .inl (List.mem_of_mem_drop h)
theorem tamed_over {xs ys : List api_Cell} {i : Nat} (h : Tamed xs) (k : Tamed ys) : Tamed (over xs i ys) := fun c hc => by
  rcases mem_over hc with h1 | h1
  · exact h c h1
  · exact k c h1
theorem tamed_clear {l : List api_Cell} {a b : Int} {s : api_Style} (h : Tamed l) (hs : okS s = true) : Tamed (clearL l a b s) := tamed_over h (tamed_blank hs _)
theorem tamed_open {l : List api_Cell} {x m : Nat} (h : Tamed l) : Tamed (openL l x m) := tamed_over h fun c hc => h c (List.mem_of_mem_drop (List.mem_of_mem_take hc))
theorem tamed_shut {l : List api_Cell} {x m : Nat} (h : Tamed l) : Tamed (shutL l x m) := tamed_over h fun c hc => h c (List.mem_of_mem_drop hc)
def TamedL (ls : List (List api_Cell)) : Prop := ∀ l ∈ ls, Tamed l
theorem mem_atLine {ls : List (List api_Cell)} {y : Int} {f : List api_Cell → List api_Cell} {x : List api_Cell} (h : x ∈ atLine ls y f) : x ∈ ls ∨ ∃ l ∈ ls, x = f l := by
  unfold atLine at h
  split at h
  · cases hl : ls[y.toNat]? with
    | none => rw [hl] at h; exact .inl h
    | some l =>
      rw [hl] at h
      rcases List.mem_or_eq_of_mem_set h with h1 | h1
      · exact .inl h1
      · exact .inr ⟨l, List.mem_of_getElem? hl, h1⟩
  · exact .inl h
theorem good_clear {w : Nat} {ls : List (List api_Cell)} {y a b : Int} {s : api_Style} (h : Good ls) (hs : okS s = true) : Good (clearG w ls y a b s) := by
  unfold clearG
  cases thereB 0 y w ls.length
  · exact h
  · exact good_atLine h fun l hl => ⟨tamed_mend (tamed_clear (h l hl).1 hs), whole_mend (tamed_clear (h l hl).1 hs)⟩
/-- A line that is turned, then cleared, then mended. -/
theorem good_turn {w : Nat} {ls : List (List api_Cell)} {x y a b : Int} {s : api_Style} {f : List api_Cell → List api_Cell} (h : Good ls) (hs : okS s = true) (hf : ∀ l, Tamed l → Tamed (f l)) (hw : 1 ≤ w) (ht : thereB x y w ls.length = true) :
    Good (clearG w (atLine ls y f) y a b s) := by
  obtain ⟨h1, h2, h3, h4⟩ := thereB_iff.1 ht
  obtain ⟨j, rfl⟩ := Int.eq_ofNat_of_zero_le h2
  have hj : j < ls.length := by omega
  have hlj := List.getElem?_eq_getElem hj
  unfold clearG
  rw [atLine_len, show thereB 0 (j : Int) w ls.length = true from thereB_iff.2 ⟨by omega, h2, by omega, h4⟩, cond_true, atLine_nat hlj]
  have hl2 : (ls.set j (f ls[j]))[j]? = some (f ls[j]) := by simp [hj]
  rw [atLine_nat hl2, List.set_set]
  have ht1 := hf ls[j] (h _ (List.getElem_mem hj)).1
  exact good_set h (tamed_mend (tamed_clear ht1 hs)) (whole_mend (tamed_clear ht1 hs))
theorem good_open {w : Nat} {ls : List (List api_Cell)} {x y n : Int} {s : api_Style} (h : Good ls) (hs : okS s = true) (hw : 1 ≤ w) : Good (openG w ls x y n s) := by
  unfold openG
  cases ht : thereB x y w ls.length
  · exact h
  · exact good_turn h hs (fun l hl => tamed_open hl) hw ht
theorem good_shut {w : Nat} {ls : List (List api_Cell)} {x y n : Int} {s : api_Style} (h : Good ls) (hs : okS s = true) (hw : 1 ≤ w) : Good (shutG w ls x y n s) := by
  unfold shutG
  cases ht : thereB x y w ls.length
  · exact h
  · exact good_turn h hs (fun l hl => tamed_shut hl) hw ht
theorem mem_upOne {α : Type} {xs : List α} {t e : Nat} {b x : α} (h : x ∈ upOne xs t e b) : x = b ∨ x ∈ xs := by
  unfold upOne at h
  simp only [List.mem_append, List.mem_cons] at h
  rcases h with h | h | h | h
  · exact .inr (List.mem_of_mem_take h)
  · exact .inr (List.mem_of_mem_drop (List.mem_of_mem_take h))
  · exact .inl h
  · exact .inr (List.mem_of_mem_drop h)
theorem mem_downOne {α : Type} {xs : List α} {t e : Nat} {b x : α} (h : x ∈ downOne xs t e b) : x = b ∨ x ∈ xs := by
  unfold downOne at h
  simp only [List.mem_append, List.mem_cons] at h
  rcases h with h | h | h | h
  · exact .inr (List.mem_of_mem_take h)
  · exact .inl h
  · exact .inr (List.mem_of_mem_drop (List.mem_of_mem_take h))
  · exact .inr (List.mem_of_mem_drop h)
theorem mem_upN {α : Type} {t e : Nat} {b x : α} : ∀ (n : Nat) {xs : List α}, x ∈ upN xs t e b n → x = b ∨ x ∈ xs
  | 0, _, h => .inr h
  | n + 1, _, h => (mem_upN n h).elim .inl mem_upOne
theorem mem_downN {α : Type} {t e : Nat} {b x : α} : ∀ (n : Nat) {xs : List α}, x ∈ downN xs t e b n → x = b ∨ x ∈ xs
  | 0, _, h => .inr h
  | n + 1, _, h => (mem_downN n h).elim .inl mem_downOne
theorem mem_upOut {α : Type} {t e : Nat} {b x : α} : ∀ (n : Nat) {xs : List α}, x ∈ upOut xs t e b n → x = b ∨ x ∈ xs
  | 0, _, h => by simp [upOut] at h
  | n + 1, xs, h => by
    rw [upOut] at h
    rcases List.mem_append.1 h with h1 | h1
    · exact .inr (List.mem_of_mem_drop (List.mem_of_mem_take h1))
    · exact (mem_upOut n h1).elim .inl mem_upOne
theorem good_mem {ls ls' : List (List api_Cell)} {s : api_Style} {w : Nat} (h : Good ls) (hs : okS s = true) (hm : ∀ l ∈ ls', l = List.replicate w (blankC s) ∨ l ∈ ls) : Good ls' := fun l hl => by
  rcases hm l hl with h1 | h1
  · rw [h1]; exact ⟨tamed_blank hs w, whole_blank hs w⟩
  · exact h l h1
theorem fit_gf {l : List api_Cell} (h : Tamed l) (hw : whole l = true) (w : Nat) : fitL l w = mend (gf l w) := (mend_gf ((whole_iff_mend h).1 hw) w).symm
theorem good_fit {l : List api_Cell} (h : Tamed l) (hw : whole l = true) (w : Nat) : Tamed (fitL l w) ∧ whole (fitL l w) = true := by
  rw [fit_gf h hw]
  exact ⟨tamed_mend (tamed_gf h w), whole_mend (tamed_gf h w)⟩
theorem good_resize {ls : List (List api_Cell)} {w h a : Nat} (hg : Good ls) : Good (resizeL ls w h a) := fun l hl => by
  unfold resizeL at hl
  rcases List.mem_append.1 hl with h1 | h1
  · obtain ⟨l', h2, rfl⟩ := List.mem_map.1 h1
    have := hg l' (List.mem_of_mem_drop (List.mem_of_mem_take h2))
    exact good_fit this.1 this.2 w
  · rw [(List.mem_replicate.1 h1).2]
    exact ⟨tamed_blank (by rfl) w, whole_blank (by rfl) w⟩
theorem good_do {w : Nat} {ls : List (List api_Cell)} {dd : law09_Deed} (h : Good ls) (hw : 1 ≤ w) : Good (doL w ls dd) ∧ Good (doO w ls dd) := by
  have hs := okS_tame dd.Cell.Style
  have hnil : Good [] := fun l hl => by cases hl
  unfold doL doO
  cases kindI dd == 0
  · cases kindI dd == 1
    · cases kindI dd == 2
      · cases kindI dd == 3
        · cases kindI dd == 4
          · cases kindI dd == 5
            · exact ⟨good_resize h, fun l hl => h l (List.mem_of_mem_take hl)⟩
            · exact ⟨good_shut h hs hw, hnil⟩
          · exact ⟨good_open h hs hw, hnil⟩
        · exact ⟨good_mem h hs fun l hl => mem_downN _ hl, hnil⟩
      · exact ⟨good_mem h hs fun l hl => mem_upN _ hl, good_mem h hs fun l hl => mem_upOut _ hl⟩
    · exact ⟨good_clear h hs, hnil⟩
  · exact ⟨good_put h, hnil⟩
end Go.Abs.TA
namespace Go.Abs.TA
open Go Go.Abs Go.Proofs
def eDeed : El law09_Deed := ⟨10, law09_Deed.cells, fun _ => rfl, fun a b h => by
  obtain ⟨k, a1, b1, c1, ⟨r, ⟨x0, x1, x2, f, g⟩⟩⟩ := a
  obtain ⟨k', a1', b1', c1', ⟨r', ⟨x0', x1', x2', f', g'⟩⟩⟩ := b
  simp [law09_Deed.cells] at h
  obtain ⟨rfl, rfl, rfl, rfl, rfl, rfl, rfl, rfl, rfl, rfl⟩ := h
  rfl⟩
theorem deed_at {s : Sl} {σ : Heap} {xs : List law09_Deed} (h : s.Is eDeed σ xs) {i : Nat} {c : law09_Deed} (hi : xs[i]? = some c) : ∃ b, s.b = some b ∧
    σ.cell? b (s.o + i * 10) = some (.int .i64 c.Kind) ∧ σ.cell? b (s.o + i * 10 + 1) = some (.int .i64 c.A) ∧ σ.cell? b (s.o + i * 10 + 2) = some (.int .i64 c.B) ∧ σ.cell? b (s.o + i * 10 + 3) = some (.int .i64 c.C) ∧
    σ.cell? b (s.o + i * 10 + 4) = some (.int .i32 c.Cell.Rune) ∧ σ.cell? b (s.o + i * 10 + 5) = some (.bool c.Cell.Style.Bold) ∧ σ.cell? b (s.o + i * 10 + 6) = some (.bool c.Cell.Style.Under) ∧
    σ.cell? b (s.o + i * 10 + 7) = some (.bool c.Cell.Style.Turned) ∧ σ.cell? b (s.o + i * 10 + 8) = some (.int .i64 c.Cell.Style.Fore) ∧ σ.cell? b (s.o + i * 10 + 9) = some (.int .i64 c.Cell.Style.Back) := by
  obtain ⟨b, hb, hc⟩ := h.cell hi
  exact ⟨b, hb, hc 0 (by decide), hc 1 (by decide), hc 2 (by decide), hc 3 (by decide), hc 4 (by decide), hc 5 (by decide), hc 6 (by decide), hc 7 (by decide), hc 8 (by decide), hc 9 (by decide)⟩
end Go.Abs.TA
namespace Go.Abs.TA
open Go Go.Abs Go.Proofs

/-- Lines that can be read. -/
def LsIs (σ : Heap) (s : Sl) (ls : List (List api_Cell)) : Prop :=
  ∃ els : List Sl, s.Is eSl σ els ∧ els.length = ls.length ∧ ∀ (i : Nat) (f : Sl) (l : List api_Cell), els[i]? = some f → ls[i]? = some l → f.Is eCell σ l
theorem GridR.ls {σ : Heap} {p : Nat} {d : GD} (g : GridR σ p d) : LsIs σ d.q d.ls := ⟨d.els, g.own, g.len, g.line⟩
theorem Outs.ls {σ : Heap} {p : Nat} {d : GD} {v : Sl} {ols : List (List api_Cell)} (h : Outs σ p d v ols) : LsIs σ v ols := by
  obtain ⟨oels, h1, h2, _, h4⟩ := h
  exact ⟨oels, h1, h2, fun i f l hf hl => (h4 i f l hf hl).1⟩
theorem LsIs.uniq {σ : Heap} {s : Sl} {ls ls' : List (List api_Cell)} (h : LsIs σ s ls) (h' : LsIs σ s ls') : ls = ls' := by
  obtain ⟨els, a1, a2, a3⟩ := h
  obtain ⟨els', b1, b2, b3⟩ := h'
  obtain rfl := a1.uniq (by decide) b1
  apply List.ext_getElem?
  intro i
  by_cases hi : i < els.length
  · have h1 : i < ls.length := by omega
    have h2 : i < ls'.length := by omega
    rw [List.getElem?_eq_getElem h1, List.getElem?_eq_getElem h2, (a3 i _ _ (List.getElem?_eq_getElem hi) (List.getElem?_eq_getElem h1)).uniq (by decide) (b3 i _ _ (List.getElem?_eq_getElem hi) (List.getElem?_eq_getElem h2))]
  · rw [List.getElem?_eq_none (by omega), List.getElem?_eq_none (by omega)]
theorem LsIs.n {σ : Heap} {s : Sl} {ls : List (List api_Cell)} (h : LsIs σ s ls) : s.n = ls.length := by
  obtain ⟨els, a1, a2, _⟩ := h
  rw [a1.n, a2]
theorem LsIs.pre {σ σ' : Heap} {s : Sl} {ls : List (List api_Cell)} (h : LsIs σ s ls) (hp : σ <+: σ') : LsIs σ' s ls := by
  obtain ⟨els, a1, a2, a3⟩ := h
  exact ⟨els, a1.pre hp, a2, fun i f l hf hl => (a3 i f l hf hl).pre hp⟩
theorem LsIs.at_ {σ : Heap} {s : Sl} {ls : List (List api_Cell)} (h : LsIs σ s ls) {i : Nat} {l : List api_Cell} (hl : ls[i]? = some l) : ∃ (b : Nat) (f : Sl), s.b = some b ∧ slice? (σ.cell? b (s.o + i * 1)) 6 = some (f.b, f.o, f.n) ∧ f.Is eCell σ l ∧ i < s.n := by
  have hn := h.n
  obtain ⟨els, a1, a2, a3⟩ := h
  have hi := (List.getElem?_eq_some_iff.1 hl).1
  have hf := List.getElem?_eq_getElem (show i < els.length by omega)
  obtain ⟨b, hb, hc⟩ := a1.cell hf
  have hc0 : σ.cell? b (s.o + i * 1) = some (.slice els[i].b els[i].o els[i].n 6) := hc 0 (by decide)
  refine ⟨b, els[i], hb, ?_, a3 i _ _ hf hl, by omega⟩
  rw [hc0]
  unfold slice?
  cases els[i] with
  | mk eb eo en => cases eb <;> rfl
noncomputable def c_law09_equal : C_law09_equal := { law08_Same := w_law08_Same }
theorem equal_loop {L : Nat} {a b : Sl} {σ : Heap} {xs ys : List (List api_Cell)} (ha : LsIs σ a xs) (hb : LsIs σ b ys) (hl : xs.length = ys.length) (hx : xs.length ≤ 1000000) :
    ∀ (k i m : Nat), i + k = xs.length → k < m → law09_equal_L4 (R := AVal × Heap) c_law09_equal L m a b (i : Int) σ (fun v σ => some (v, σ)) = some (.bool (decide (xs.drop i = ys.drop i)), σ)
  | k, i, 0, _, h => by omega
  | 0, i, m + 1, h, _ => by
    rw [law09_equal_L4_eq, ha.n, lt_false (by omega), cond_false, List.drop_eq_nil_of_le (by omega), List.drop_eq_nil_of_le (by omega)]
    rfl
  | k + 1, i, m + 1, h, hm => by
    have hi : i < xs.length := by omega
    have hj : i < ys.length := by omega
    obtain ⟨b1, f1, k1, k3, k4, k6⟩ := ha.at_ (List.getElem?_eq_getElem hi)
    obtain ⟨b2, f2, j1, j3, j4, j6⟩ := hb.at_ (List.getElem?_eq_getElem hj)
    have p1 : c_law09_equal.law08_Same = w_law08_Same := rfl
    have ih := equal_loop (L := L) ha hb hl hx k (i + 1) m (by omega) (by omega)
    rw [law09_equal_L4_eq, lt_true k6, lt_true j6, dec0, Bool.and_self, cond_true, cond_true, k1, Option.bind_some, Int.toNat_natCast, k3, Option.bind_some, cond_true, j1, Option.bind_some, j3, Option.bind_some, p1, w_law08_Same_eq k4 j4, Option.bind_some, List.drop_eq_getElem_cons hi, List.drop_eq_getElem_cons hj, wrap_i64_succ i (by omega), dec_cons]
    dsimp only
    by_cases hc : xs[i] = ys[i]
    · rw [decide_eq_true hc, Bool.not_true, cond_false, Bool.true_and]
      exact ih
    · rw [decide_eq_false hc, Bool.not_false, cond_true]
      rfl
noncomputable def w_law09_equal (a b : Sl) (σ : Heap) : Option (Bool × Heap) := wOf (fun t : List (List api_Cell) × List (List api_Cell) => (LsIs σ a t.1 ∧ LsIs σ b t.2) ∧ t.1.length ≤ 1000000) fun t => (decide (t.1 = t.2), σ)
theorem w_law09_equal_eq {a b : Sl} {σ : Heap} {xs ys : List (List api_Cell)} (ha : LsIs σ a xs) (hb : LsIs σ b ys) (hx : xs.length ≤ 1000000) : w_law09_equal a b σ = some (decide (xs = ys), σ) :=
  wOf_eq (x := (xs, ys)) ⟨⟨ha, hb⟩, hx⟩ fun t ht => by
    obtain ⟨x, y⟩ := t
    rw [show x = xs from ht.1.1.uniq ha, show y = ys from ht.1.2.uniq hb]
theorem ok_law09_equal : Ok_law09_equal w_law09_equal := fun a b σ v σ' h => by
  obtain ⟨⟨xs, ys⟩, ⟨⟨ha, hb⟩, hx⟩, e⟩ := wOf_some h
  injection e with e1 e2
  subst e1; subst e2
  simp only at ha hb hx
  refine call_ok ok (K_law09_equal c_law09_equal ok_law08_Same) (L := xs.length + 1) (n := 2) ((law09_equal_eq c_law09_equal (xs.length + 1) a b σ _).trans ?_)
  rw [ha.n, hb.n]
  by_cases hl : xs.length = ys.length
  · rw [show ((xs.length : Int) != (ys.length : Int)) = false by simp [hl], cond_false]
    have := equal_loop (L := xs.length + 1) ha hb hl hx xs.length 0 (xs.length + 1) (by omega) (by omega)
    rw [List.drop_zero, List.drop_zero] at this
    exact this
  · rw [show ((xs.length : Int) != (ys.length : Int)) = true by simp; omega, cond_true]
    rw [show decide (xs = ys) = false by simp; intro e; exact hl (by rw [e])]
    rfl
end Go.Abs.TA
