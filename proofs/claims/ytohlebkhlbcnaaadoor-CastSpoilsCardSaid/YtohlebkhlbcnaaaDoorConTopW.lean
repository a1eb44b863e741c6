/-
A list of events that came in.
-/
import Derived.Test.YtohlebkhlbcnaaaDoorConTopB
import Derived.Test.YtohlebkhlbcnaaaDoorMConW
namespace Go.Abs.TB
open Go Go.Abs Go.Proofs Go.Proofs.YtohlebkhlbcnaaaDoor Go.ChangeShapes Go.WideShapes Go.ChangeAt Go.RowKit
def wpl (W : World) : Pl := ⟨4, 0, 20, tyAt W 4⟩
theorem pow_nil {W : World} {zs : List Int} {k : IntKind} (h : Ints W 4 k zs) (hl : zs.length = 20) (ρ : Mp) : BRel ρ (wpl W) W (.row [] .ro) := by
  obtain ⟨ty, fr, hc⟩ := h
  exact ⟨_, ty, fr, hc, by simp [wpl, hl], by simp [wpl], fun j x hx => (by simp at hx), fun h => (by cases h), fun j hj => (by simp at hj), tyAt_of hc⟩
theorem exists_rows {α : Type} {en : α → List AVal} {ok : α → Prop} : ∀ {rows : List (List AVal)}, (∀ r ∈ rows, ∃ a, en a = r ∧ ok a) → ∃ xs : List α, xs.map en = rows ∧ ∀ a ∈ xs, ok a
  | [], _ => ⟨[], rfl, fun a h => by cases h⟩
  | r :: rows, h => by
    obtain ⟨a, ha, hok⟩ := h r List.mem_cons_self
    obtain ⟨xs, hx, hxs⟩ := exists_rows fun r hr => h r (List.mem_cons_of_mem _ hr)
    exact ⟨a :: xs, by simp [ha, hx], fun b hb => by
      rcases List.mem_cons.1 hb with rfl | hb
      · exact hok
      · exact hxs b hb⟩
set_option maxRecDepth 100000 in
/-- A slice that came in: block k has its elements. -/
theorem arg_sl {α : Type} (E : El α) (okα : α → Prop) {ss : List Sh} (hss : ss.length = E.z) (conv : ∀ r, ShOKs ss r → ∃ a, E.en a = r ∧ okα a) (k : Nat) {H : Type} {enc : TypeId × Value → H} {W : World} {hd : Bool}
    {t e : TypeId} (hq : eqOk Tryd.prog 40 e ss = true) (ht : Tryd.prog.underlying t = some (.slice e)) (hc : Tryd.prog.cellsOf e = ss.length) (hz : 0 < ss.length) {r : Reach} {b0 : Nat} {v : Value} (hval : Value.okWide Tryd.prog W r b0 t v)
    {d : DataW H} {ps : List MemPlace} (h : DataW.Trod enc Tryd.prog W 0 (fun _ => true) hd t v d ps) (hg : ∀ ρ, BRel ρ (wpl W) W (.row [] .ro)) :
    ∃ (pl : Pl) (xs : List α) (s : Sl), (∀ a ∈ xs, okα a) ∧ (∀ ρ, BRel ρ pl W (.row (E.all xs) .ro)) ∧ s.n = xs.length ∧ s.o = 0 ∧ ((s.b = none ∧ xs = []) ∨ s.b = some k) ∧
      ∀ (ρ : Mp) (lm : Lp), ρ k = some pl → VRel ρ lm ((tSl E.z).av s) v := by
  have h0 := arg_slice hq ht hc hz hval h hg
  clear hq ht hc hval h
  rcases h0 with h0 | ⟨pl, rows, h1, _, h3, h4⟩
  · refine ⟨wpl W, [], ⟨none, 0, 0⟩, List.forall_mem_nil _, ?_, rfl, rfl, .inl ⟨rfl, rfl⟩, fun ρ lm _ => ?_⟩
    · rw [E.all_nil]; exact hg
    · rw [h0]
      show VRel ρ lm (.slice none 0 0 E.z) _
      simp only [VRel]
      exact ⟨trivial, trivial, trivial⟩
  · obtain ⟨xs, hx, hok⟩ := exists_rows (en := E.en) (ok := okα) fun r hr => conv r (h1 r hr)
    refine ⟨pl, xs, ⟨some k, 0, xs.length⟩, hok, ?_, rfl, rfl, .inr rfl, fun ρ lm hk => ?_⟩
    · rw [El.all, hx]; exact h3
    · have := h4 ρ lm k hk
      rw [← hx, List.length_map, hss] at this
      exact this
theorem arg_is {α : Type} {E : El α} {σ : Heap} {s : Sl} {xs : List α} {k : Nat} (hn : s.n = xs.length) (ho : s.o = 0) (hb : (s.b = none ∧ xs = []) ∨ s.b = some k) (hr : σ.row? k = some (E.all xs)) (hl : xs.length ≤ 1099511627776) : s.Is E σ xs := by
  refine ⟨hn, hl, ?_⟩
  rcases hb with ⟨h1, h2⟩ | h1
  · exact .inl ⟨h1, ho, h2⟩
  · exact .inr ⟨k, _, h1, hr, by rw [ho, List.drop_zero, List.take_of_length_le (by rw [E.all_len]; exact Nat.le_refl _)], by rw [ho, E.all_len]; simp⟩
theorem conv_ev (r : List AVal) (h : ShOKs [.int .i64, .int .i64, .str, .int .i64, .int .i64] r) : ∃ a, eEv.en a = r ∧ True := by
  obtain ⟨_, _, rfl, ⟨t, rfl, _⟩, _, _, rfl, ⟨k, rfl, _⟩, _, _, rfl, ⟨s, rfl, _⟩, _, _, rfl, ⟨w, rfl, _⟩, _, _, rfl, ⟨h, rfl, _⟩, rfl⟩ := h
  exact ⟨⟨t, k, s, w, h⟩, rfl, trivial⟩
end Go.Abs.TB
