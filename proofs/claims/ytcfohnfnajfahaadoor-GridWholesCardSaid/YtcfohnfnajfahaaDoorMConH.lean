/-
Whatever is done, lines are right and whole.
Deeds in memory.
-/
import Derived.Test.YtcfohnfnajfahaaDoorMConG
import Derived.Test.YtcfohnfnajfahaaDoorLawGF
import Derived.Test.YtcfohnfnajfahaaDoorMConA
namespace Go.Abs.TA
open Go Go.Abs Go.Proofs

theorem mem_over {α : Type} {xs ys : List α} {i : Nat} {x : α} (h : x ∈ over xs i ys) : x ∈ xs ∨ x ∈ ys := by
  unfold over at h
  rcases List.mem_append.1 h with h | h
  · rcases List.mem_append.1 h with h | h
    · exact .inl (List.mem_of_mem_take h)
    · exact .inr h
  · exact .inl (List.mem_of_mem_drop h)
theorem tamed_over {xs ys : List api_Cell} {i : Nat} (h : Tamed xs) (k : Tamed ys) : Tamed (over xs i ys) := fun c hc => by
  rcases mem_over hc with h1 | h1
  · exact h c h1
  · exact k c h1
theorem tamed_clear {l : List api_Cell} {a b : Int} {s : api_Style} (h : Tamed l) (hs : okS s = true) : Tamed (clearL l a b s) := tamed_over h (tamed_blank hs _)
theorem tamed_open {l : List api_Cell} {x m : Nat} (h : Tamed l) : Tamed (openL l x m) := tamed_over h fun c hc => h c (List.mem_of_mem_drop (List.mem_of_mem_take hc))
theorem tamed_shut {l : List api_Cell} {x m : Nat} (h : Tamed l) : Tamed (shutL l x m) := tamed_over h fun c hc => h c (List.mem_of_mem_drop hc)
def TamedL (ls : List (List api_Cell)) : Prop := ∀ l ∈ ls, Tamed l
theorem mem_atLine {ls : List (List api_Cell)} {y : Int} {f : List api_Cell → List api_Cell} {x : List api_Cell} (h : x ∈ atLine ls y f) : x ∈ ls ∨ ∃ l ∈ ls, x = f l := by
  unfold atLine at h
  split at h
  · cases hl : ls[y.toNat]? with
    | none => rw [hl] at h; exact .inl h
    | some l =>
      rw [hl] at h
      rcases List.mem_or_eq_of_mem_set h with h1 | h1
      · exact .inl h1
      · exact .inr ⟨l, List.mem_of_getElem? hl, h1⟩
  · exact .inl h
theorem good_clear {w : Nat} {ls : List (List api_Cell)} {y a b : Int} {s : api_Style} (h : Good ls) (hs : okS s = true) : Good (clearG w ls y a b s) := by
  unfold clearG
  cases thereB 0 y w ls.length
  · exact h
  · exact good_atLine h fun l hl => ⟨tamed_mend (tamed_clear (h l hl).1 hs), whole_mend (tamed_clear (h l hl).1 hs)⟩
/-- A line that is turned, then cleared, then mended. -/
theorem good_turn {w : Nat} {ls : List (List api_Cell)} {x y a b : Int} {s : api_Style} {f : List api_Cell → List api_Cell} (h : Good ls) (hs : okS s = true) (hf : ∀ l, Tamed l → Tamed (f l)) (hw : 1 ≤ w) (ht : thereB x y w ls.length = true) :
    Good (clearG w (atLine ls y f) y a b s) := by
  obtain ⟨h1, h2, h3, h4⟩ := thereB_iff.1 ht
  obtain ⟨j, rfl⟩ := Int.eq_ofNat_of_zero_le h2
  have hj : j < ls.length := by omega
  have hlj := List.getElem?_eq_getElem hj
  unfold clearG
  rw [atLine_len, show thereB 0 (j : Int) w ls.length = true from thereB_iff.2 ⟨by omega, h2, by omega, h4⟩, cond_true, atLine_nat hlj]
  have hl2 : (ls.set j (f ls[j]))[j]? = some (f ls[j]) := by simp [hj]
  rw [atLine_nat hl2, List.set_set]
  have ht1 := hf ls[j] (h _ (List.getElem_mem hj)).1
  exact good_set h (tamed_mend (tamed_clear ht1 hs)) (whole_mend (tamed_clear ht1 hs))
theorem good_open {w : Nat} {ls : List (List api_Cell)} {x y n : Int} {s : api_Style} (h : Good ls) (hs : okS s = true) (hw : 1 ≤ w) : Good (openG w ls x y n s) := by
  unfold openG
  cases ht : thereB x y w ls.length
  · exact h
  · exact good_turn h hs (fun l hl => tamed_open hl) hw ht
theorem good_shut {w : Nat} {ls : List (List api_Cell)} {x y n : Int} {s : api_Style} (h : Good ls) (hs : okS s = true) (hw : 1 ≤ w) : Good (shutG w ls x y n s) := by
  unfold shutG
  cases ht : thereB x y w ls.length
  · exact h
  · exact good_turn h hs (fun l hl => tamed_shut hl) hw ht
theorem mem_upOne {α : Type} {xs : List α} {t e : Nat} {b x : α} (h : x ∈ upOne xs t e b) : x = b ∨ x ∈ xs := by
  unfold upOne at h
  simp only [List.mem_append, List.mem_cons] at h
  rcases h with h | h | h | h
  · exact .inr (List.mem_of_mem_take h)
  · exact .inr (List.mem_of_mem_drop (List.mem_of_mem_take h))
  · exact .inl h
  · exact .inr (List.mem_of_mem_drop h)
theorem mem_downOne {α : Type} {xs : List α} {t e : Nat} {b x : α} (h : x ∈ downOne xs t e b) : x = b ∨ x ∈ xs := by
  unfold downOne at h
  simp only [List.mem_append, List.mem_cons] at h
  rcases h with h | h | h | h
  · exact .inr (List.mem_of_mem_take h)
  · exact .inl h
  · exact .inr (List.mem_of_mem_drop (List.mem_of_mem_take h))
  · exact .inr (List.mem_of_mem_drop h)
theorem mem_upN {α : Type} {t e : Nat} {b x : α} : ∀ (n : Nat) {xs : List α}, x ∈ upN xs t e b n → x = b ∨ x ∈ xs
  | 0, _, h => .inr h
  | n + 1, _, h => (mem_upN n h).elim .inl mem_upOne
theorem mem_downN {α : Type} {t e : Nat} {b x : α} : ∀ (n : Nat) {xs : List α}, x ∈ downN xs t e b n → x = b ∨ x ∈ xs
  | 0, _, h => .inr h
  | n + 1, _, h => (mem_downN n h).elim .inl mem_downOne
theorem mem_upOut {α : Type} {t e : Nat} {b x : α} : ∀ (n : Nat) {xs : List α}, x ∈ upOut xs t e b n → x = b ∨ x ∈ xs
  | 0, _, h => by simp [upOut] at h
  | n + 1, xs, h => by
    rw [upOut] at h
    rcases List.mem_append.1 h with h1 | h1
    · exact .inr (List.mem_of_mem_drop (List.mem_of_mem_take h1))
    · exact (mem_upOut n h1).elim .inl mem_upOne
theorem good_mem {ls ls' : List (List api_Cell)} {s : api_Style} {w : Nat} (h : Good ls) (hs : okS s = true) (hm : ∀ l ∈ ls', l = List.replicate w (blankC s) ∨ l ∈ ls) : Good ls' := fun l hl => by
  rcases hm l hl with h1 | h1
  · rw [h1]; exact ⟨tamed_blank hs w, whole_blank hs w⟩
  · exact h l h1
theorem fit_gf {l : List api_Cell} (h : Tamed l) (hw : whole l = true) (w : Nat) : fitL l w = mend (gf l w) := (mend_gf ((whole_iff_mend h).1 hw) w).symm
theorem good_fit {l : List api_Cell} (h : Tamed l) (hw : whole l = true) (w : Nat) : Tamed (fitL l w) ∧ whole (fitL l w) = true := by
  rw [fit_gf h hw]
  exact ⟨tamed_mend (tamed_gf h w), whole_mend (tamed_gf h w)⟩
theorem good_resize {ls : List (List api_Cell)} {w h a : Nat} (hg : Good ls) : Good (resizeL ls w h a) := fun l hl => by
  unfold resizeL at hl
  rcases List.mem_append.1 hl with h1 | h1
  · obtain ⟨l', h2, rfl⟩ := List.mem_map.1 h1
    have := hg l' (List.mem_of_mem_drop (List.mem_of_mem_take h2))
    exact good_fit this.1 this.2 w
  · rw [(List.mem_replicate.1 h1).2]
    exact ⟨tamed_blank (by rfl) w, whole_blank (by rfl) w⟩
theorem good_do {w : Nat} {ls : List (List api_Cell)} {dd : law09_Deed} (h : Good ls) (hw : 1 ≤ w) : Good (doL w ls dd) ∧ Good (doO w ls dd) := by
  have hs := okS_tame dd.Cell.Style
  have hnil : Good [] := fun l hl => by cases hl
  unfold doL doO
  cases kindI dd == 0
  · cases kindI dd == 1
    · cases kindI dd == 2
      · cases kindI dd == 3
        · cases kindI dd == 4
          · cases kindI dd == 5
            · exact ⟨good_resize h, fun l hl => h l (List.mem_of_mem_take hl)⟩
            · exact ⟨good_shut h hs hw, hnil⟩
          · exact ⟨good_open h hs hw, hnil⟩
        · exact ⟨good_mem h hs fun l hl => mem_downN _ hl, hnil⟩
      · exact ⟨good_mem h hs fun l hl => mem_upN _ hl, good_mem h hs fun l hl => mem_upOut _ hl⟩
    · exact ⟨good_clear h hs, hnil⟩
  · exact ⟨good_put h, hnil⟩
end Go.Abs.TA
namespace Go.Abs.TA
open Go Go.Abs Go.Proofs
def eDeed : El law09_Deed := ⟨10, law09_Deed.cells, fun _ => rfl, fun a b h => by
  obtain ⟨k, a1, b1, c1, ⟨r, ⟨x0, x1, x2, f, g⟩⟩⟩ := a
  obtain ⟨k', a1', b1', c1', ⟨r', ⟨x0', x1', x2', f', g'⟩⟩⟩ := b
  simp [law09_Deed.cells] at h
  obtain ⟨rfl, rfl, rfl, rfl, rfl, rfl, rfl, rfl, rfl, rfl⟩ := h
  rfl⟩
theorem deed_at {s : Sl} {σ : Heap} {xs : List law09_Deed} (h : s.Is eDeed σ xs) {i : Nat} {c : law09_Deed} (hi : xs[i]? = some c) : ∃ b, s.b = some b ∧
    σ.cell? b (s.o + i * 10) = some (.int .i64 c.Kind) ∧ σ.cell? b (s.o + i * 10 + 1) = some (.int .i64 c.A) ∧ σ.cell? b (s.o + i * 10 + 2) = some (.int .i64 c.B) ∧ σ.cell? b (s.o + i * 10 + 3) = some (.int .i64 c.C) ∧
    σ.cell? b (s.o + i * 10 + 4) = some (.int .i32 c.Cell.Rune) ∧ σ.cell? b (s.o + i * 10 + 5) = some (.bool c.Cell.Style.Bold) ∧ σ.cell? b (s.o + i * 10 + 6) = some (.bool c.Cell.Style.Under) ∧
    σ.cell? b (s.o + i * 10 + 7) = some (.bool c.Cell.Style.Turned) ∧ σ.cell? b (s.o + i * 10 + 8) = some (.int .i64 c.Cell.Style.Fore) ∧ σ.cell? b (s.o + i * 10 + 9) = some (.int .i64 c.Cell.Style.Back) := by
  obtain ⟨b, hb, hc⟩ := h.cell hi
  exact ⟨b, hb, hc 0 (by decide), hc 1 (by decide), hc 2 (by decide), hc 3 (by decide), hc 4 (by decide), hc 5 (by decide), hc 6 (by decide), hc 7 (by decide), hc 8 (by decide), hc 9 (by decide)⟩
end Go.Abs.TA
