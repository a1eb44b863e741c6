/-
A law's arguments and memory, as the machine has them.
-/
import Derived.Test.YtcfohnfnajfahaaDoorMConA
import Derived.Test.YtcfohnfnajfahaaDoorCards
import Derived.Test.YtcfohnfnajfahaaDoorTie
import Derived.WalkKit
import Derived.ProofKit
import Derived.Deep.DeepHandedRow
namespace Go.Abs.TA
open Go Go.Abs Go.Proofs Go.Proofs.YtcfohnfnajfahaaDoor Go.ChangeShapes Go.WideShapes Go.ChangeAt Go.RowKit
theorem gTab : Tryd.prog.globalNamed "flipbook/glyph.wide" = some 0 := by kernel_rfl
theorem gTabType : (Tryd.prog.globals[0]?).map (·.type) = some 104 := by kernel_rfl
theorem cells104 : Tryd.prog.cellsOf 104 = 18 := by kernel_rfl
theorem cells21 : Tryd.prog.cellsOf 21 = 1 := by kernel_rfl
theorem own : ownKnob Tryd.prog.godebug = none := by kernel_rfl
theorem laidOut : laidOutB Tryd.prog = true := by kernel_rfl
theorem table {W : World} (h : laidMetH Tryd.prog Rows.cellChangesRow.laid W) : Lib.TabIs Tryd.prog W "flipbook/glyph.wide" .i32 wideInts :=
  Lib.tabIs_of_head (rest := []) gTab gTabType Tryd.underlying104 Tryd.underlying21 cells21 cells104 h
/-- The type that a block of the world bears. -/
def tyAt (W : World) (g : Nat) : TypeId := match W.heap[g]? with
  | some (.cells _ ty _) => ty
  | _ => 0
theorem tyAt_of {W : World} {g : Nat} {cs : Array Value} {ty : TypeId} {fr : Nat × Nat} (h : W.heap[g]? = some (.cells cs ty fr)) : ty = tyAt W g := by
  unfold tyAt
  rw [h]
def wpl (W : World) : Pl := ⟨0, 0, 18, tyAt W 0⟩
theorem globT (g : Nat) (h : T.glob g = true) : g = 0 := by
  have : memN [0] g = true := h
  have := memN_mem this
  simpa using this
theorem wide_rel {W : World} (h : Lib.TabIs Tryd.prog W "flipbook/glyph.wide" .i32 wideInts) : ∃ ty fr, W.heap[0]? = some (.cells (wideInts.map fun z => Value.int .i32 z).toArray ty fr) := by
  unfold Lib.TabIs World.var? at h
  rw [gTab] at h
  simp only [Option.bind_some] at h
  split at h
  · rename_i cs ty fr hc
    injection h with h
    subst h
    exact ⟨ty, fr, hc⟩
  · cases h
theorem wide_brel {W : World} (h : Lib.TabIs Tryd.prog W "flipbook/glyph.wide" .i32 wideInts) (ρ : Mp) : BRel ρ (wpl W) W (.row wideRow .ro) := by
  obtain ⟨ty, fr, hc⟩ := wide_rel h
  refine ⟨_, ty, fr, hc, rfl, by simp [wpl, wideRow], fun j x hx => ?_, fun h => (by cases h), fun j hj v hv => ?_, tyAt_of hc⟩
  · rw [wideRow, List.getElem?_map] at hx
    obtain ⟨n, hn, rfl⟩ := Option.map_eq_some_iff.1 hx
    exact ⟨.int .i32 n, by simp [wpl, hn], by simp [VRel]⟩
  · simp only [wpl, Nat.zero_add] at hv
    rw [List.getElem?_toArray, List.getElem?_map] at hv
    obtain ⟨n, hn, rfl⟩ := Option.map_eq_some_iff.1 hv
    rfl
theorem wide_nil {W : World} (h : Lib.TabIs Tryd.prog W "flipbook/glyph.wide" .i32 wideInts) (ρ : Mp) : BRel ρ (wpl W) W (.row [] .ro) := by
  obtain ⟨ty, fr, hc⟩ := wide_rel h
  exact ⟨_, ty, fr, hc, rfl, by simp [wpl], fun j x hx => (by simp at hx), fun h => (by cases h), fun j hj => (by simp at hj), tyAt_of hc⟩

theorem exists_rows {α : Type} {en : α → List AVal} {ok : α → Prop} : ∀ {rows : List (List AVal)}, (∀ r ∈ rows, ∃ a, en a = r ∧ ok a) → ∃ xs : List α, xs.map en = rows ∧ ∀ a ∈ xs, ok a
  | [], _ => ⟨[], rfl, fun a h => by cases h⟩
  | r :: rows, h => by
    obtain ⟨a, ha, hok⟩ := h r List.mem_cons_self
    obtain ⟨xs, hx, hxs⟩ := exists_rows fun r hr => h r (List.mem_cons_of_mem _ hr)
    exact ⟨a :: xs, by simp [ha, hx], fun b hb => by
      rcases List.mem_cons.1 hb with rfl | hb
      · exact hok
      · exact hxs b hb⟩
set_option maxRecDepth 100000 in
/-- A slice that came in: block k has its elements. -/
theorem arg_sl {α : Type} (E : El α) (okα : α → Prop) {ss : List Sh} (hss : ss.length = E.z) (conv : ∀ r, ShOKs ss r → ∃ a, E.en a = r ∧ okα a) (k : Nat) {H : Type} {enc : TypeId × Value → H} {W : World} {hd : Bool}
    {t e : TypeId} (hq : eqOk Tryd.prog 40 e ss = true) (ht : Tryd.prog.underlying t = some (.slice e)) (hc : Tryd.prog.cellsOf e = ss.length) (hz : 0 < ss.length) {r : Reach} {b0 : Nat} {v : Value} (hval : Value.okWide Tryd.prog W r b0 t v)
    {d : DataW H} {ps : List MemPlace} (h : DataW.Trod enc Tryd.prog W 0 (fun _ => true) hd t v d ps) (hg : ∀ ρ, BRel ρ (wpl W) W (.row [] .ro)) :
    ∃ (pl : Pl) (xs : List α) (s : Sl), (∀ a ∈ xs, okα a) ∧ (∀ ρ, BRel ρ pl W (.row (E.all xs) .ro)) ∧ s.n = xs.length ∧ s.o = 0 ∧ ((s.b = none ∧ xs = []) ∨ s.b = some k) ∧
      ∀ (ρ : Mp) (lm : Lp), ρ k = some pl → VRel ρ lm ((tSl E.z).av s) v := by
  have h0 := arg_slice hq ht hc hz hval h hg
  clear hq ht hc hval h
  rcases h0 with h0 | ⟨pl, rows, h1, _, h3, h4⟩
  · refine ⟨wpl W, [], ⟨none, 0, 0⟩, List.forall_mem_nil _, ?_, rfl, rfl, .inl ⟨rfl, rfl⟩, fun ρ lm _ => ?_⟩
    · rw [E.all_nil]; exact hg
    · rw [h0]
      show VRel ρ lm (.slice none 0 0 E.z) _
      simp only [VRel]
      exact ⟨trivial, trivial, trivial⟩
  · obtain ⟨xs, hx, hok⟩ := exists_rows (en := E.en) (ok := okα) fun r hr => conv r (h1 r hr)
    refine ⟨pl, xs, ⟨some k, 0, xs.length⟩, hok, ?_, rfl, rfl, .inr rfl, fun ρ lm hk => ?_⟩
    · rw [El.all, hx]; exact h3
    · have := h4 ρ lm k hk
      rw [← hx, List.length_map, hss] at this
      exact this
theorem arg_is {α : Type} {E : El α} {σ : Heap} {s : Sl} {xs : List α} {k : Nat} (hn : s.n = xs.length) (ho : s.o = 0) (hb : (s.b = none ∧ xs = []) ∨ s.b = some k) (hr : σ.row? k = some (E.all xs)) (hl : xs.length ≤ 1099511627776) : s.Is E σ xs := by
  refine ⟨hn, hl, ?_⟩
  rcases hb with ⟨h1, h2⟩ | h1
  · exact .inl ⟨h1, ho, h2⟩
  · exact .inr ⟨k, _, h1, hr, by rw [ho, List.drop_zero, List.take_of_length_le (by rw [E.all_len]; exact Nat.le_refl _)], by rw [ho, E.all_len]; simp⟩
theorem conv_i64 (r : List AVal) (h : ShOKs [.int .i64] r) : ∃ a, eI64.en a = r ∧ (-9223372036854775808 ≤ a ∧ a ≤ 9223372036854775807) := by
  obtain ⟨_, _, rfl, ⟨n, rfl, hw⟩, rfl⟩ := h
  refine ⟨n, rfl, ?_⟩
  simp only [Lit.wf, Bool.and_eq_true, decide_eq_true_eq] at hw
  have h1 : IntKind.i64.min = -9223372036854775808 := by decide
  have h2 : IntKind.i64.max = 9223372036854775807 := by decide
  omega
theorem i64_wf {n : Int} (hw : (Lit.int .i64 n).wf = true) : -9223372036854775808 ≤ n ∧ n ≤ 9223372036854775807 := by
  simp only [Lit.wf, Bool.and_eq_true, decide_eq_true_eq] at hw
  have h1 : IntKind.i64.min = -9223372036854775808 := by decide
  have h2 : IntKind.i64.max = 9223372036854775807 := by decide
  omega
theorem style_shape {xs : List AVal} (h : ShOKs [.bool, .bool, .bool, .int .i64, .int .i64] xs) : ∃ s : api_Style, .agg xs = t_api_Style.av s := by
  obtain ⟨_, _, rfl, ⟨b0, rfl⟩, _, _, rfl, ⟨b1, rfl⟩, _, _, rfl, ⟨b2, rfl⟩, _, _, rfl, ⟨f, rfl, _⟩, _, _, rfl, ⟨b, rfl, _⟩, rfl⟩ := h
  exact ⟨⟨b0, b1, b2, f, b⟩, rfl⟩
theorem conv_cell (r : List AVal) (h : ShOKs [.int .i32, .bool, .bool, .bool, .int .i64, .int .i64] r) : ∃ a, eCell.en a = r ∧ True := by
  obtain ⟨_, _, rfl, ⟨n, rfl, _⟩, _, _, rfl, ⟨b0, rfl⟩, _, _, rfl, ⟨b1, rfl⟩, _, _, rfl, ⟨b2, rfl⟩, _, _, rfl, ⟨f, rfl, _⟩, _, _, rfl, ⟨b, rfl, _⟩, rfl⟩ := h
  exact ⟨⟨n, ⟨b0, b1, b2, f, b⟩⟩, rfl, trivial⟩
theorem cell_shape {xs : List AVal} (h : ShOKs [.int .i32, .bool, .bool, .bool, .int .i64, .int .i64] xs) : ∃ s : api_Cell, .agg xs = t_api_Cell.av s := by
  obtain ⟨a, ha, _⟩ := conv_cell xs h
  exact ⟨a, by rw [← ha]; rfl⟩
end Go.Abs.TA
