/-
A law's arguments and memory, as the machine has them (seat e, over the machine with interfaces).
-/
import Derived.Test.YtnoplfndpemmpaaGreatDoorLawTR
import Derived.Test.YtnoplfndpemmpaaGreatDoorCards
import Derived.Test.YtnoplfndpemmpaaGreatDoorTie
import Derived.WalkKit
import Derived.ProofKit
import Derived.Deep.DeepHandedRow
import Derived.Lib.LaidU8
namespace Go.Abs.TE
open Go Go.Abs Go.Proofs Go.Proofs.YtnoplfndpemmpaaGreatDoor Go.ChangeShapes Go.WideShapes Go.ChangeAt Go.RowKit
theorem own : ownKnob Tryz.prog.godebug = none := by kernel_rfl
theorem laidOut : laidOutB Tryz.prog = true := by kernel_rfl
theorem cells370 : Tryz.prog.cellsOf 370 = 20 := by kernel_rfl
theorem cells65 : Tryz.prog.cellsOf 65 = 1 := by kernel_rfl
theorem cells361 : Tryz.prog.cellsOf 361 = 18 := by kernel_rfl
theorem cells21 : Tryz.prog.cellsOf 21 = 1 := by kernel_rfl
theorem gN4 : Tryz.prog.globalNamed "flipbook/glyph.wide" = some 4 := by kernel_rfl
theorem gN5 : Tryz.prog.globalNamed "internal/strconv.uint64pow10" = some 5 := by kernel_rfl
theorem gT4 : (Tryz.prog.globals[4]?).map (·.type) = some 361 := by kernel_rfl
theorem gT5 : (Tryz.prog.globals[5]?).map (·.type) = some 370 := by kernel_rfl
theorem var_heap {W : World} {n : String} {g : Nat} {cs : Array Value} (hg : Tryz.prog.globalNamed n = some g) (h : W.var? Tryz.prog n = some cs) : ∃ ty fr, W.heap[g]? = some (.cells cs ty fr) := by
  unfold World.var? at h
  rw [hg] at h
  simp only [Option.bind_some] at h
  split at h
  · rename_i ty fr hc
    injection h with h
    subst h
    exact ⟨ty, fr, hc⟩
  · cases h
/-- The type that a block of the world bears. -/
def tyAt (W : World) (g : Nat) : TypeId := match W.heap[g]? with
  | some (.cells _ ty _) => ty
  | _ => 0
theorem tyAt_of {W : World} {g : Nat} {cs : Array Value} {ty : TypeId} {fr : Nat × Nat} (h : W.heap[g]? = some (.cells cs ty fr)) : ty = tyAt W g := by
  unfold tyAt
  rw [h]
/-- A global that holds these numbers. -/
def Ints (W : World) (g : Nat) (k : IntKind) (zs : List Int) : Prop := ∃ ty fr, W.heap[g]? = some (.cells (zs.map fun z => Value.int k z).toArray ty fr)
theorem ints_brel {W : World} {g : Nat} {k : IntKind} {zs : List Int} (h : Ints W g k zs) (ρ : Mp) {n : Nat} (hn : n = zs.length) : BRel ρ ⟨g, 0, n, tyAt W g⟩ W (.row (zs.map fun z => .int k z) .ro) := by
  subst hn
  obtain ⟨ty, fr, hc⟩ := h
  refine ⟨_, ty, fr, hc, by simp, by simp, fun j x hx => ?_, fun h => (by cases h), fun j hj v hv => ?_, tyAt_of hc⟩
  · rw [List.getElem?_map] at hx
    obtain ⟨n, hn, rfl⟩ := Option.map_eq_some_iff.1 hx
    exact ⟨.int k n, by simp [hn], by simp [VRel]⟩
  · simp only [Nat.zero_add] at hv
    rw [List.getElem?_toArray, List.getElem?_map] at hv
    obtain ⟨n, hn, rfl⟩ := Option.map_eq_some_iff.1 hv
    rfl
theorem tab_ints {W : World} {l : List (String × DataW Unit)} {name : String} {k : IntKind} {zs : List Int} {g : Nat} {t e : TypeId} {n : Nat}
    (hg : Tryz.prog.globalNamed name = some g) (hty : (Tryz.prog.globals[g]?).map (·.type) = some t) (ht : Tryz.prog.underlying t = some (.array n e)) (he : Tryz.prog.underlying e = some (.int k)) (hce : Tryz.prog.cellsOf e = 1) (hct : Tryz.prog.cellsOf t = n)
    (h : laidMet Tryz.prog l W) (hm : (name, Lib.tabData k zs) ∈ l) : Ints W g k zs := by
  obtain ⟨g', t', cs, fuel, p, hg', ht', hvar, hd⟩ := Lib.laidMet.reads h hm
  obtain rfl := Option.some.inj (hg.symm.trans hg')
  obtain rfl := Option.some.inj (hty.symm.trans ht')
  obtain ⟨ty, fr, hc⟩ := var_heap hg hvar
  refine ⟨ty, fr, ?_⟩
  rw [hc, ← Lib.cells_of_tab ht he hce hct hd]
/-- What a world has of the globals. -/
structure GW (W : World) : Prop where
  wide : Ints W 4 .i32 sigs
  pow : Ints W 5 .u64 pows
def gpls (W : World) : List Pl := [⟨0, 0, 18, tyAt W 0⟩, ⟨1, 0, 256, tyAt W 1⟩, ⟨2, 0, 32, tyAt W 2⟩, ⟨3, 0, 31, tyAt W 3⟩, ⟨4, 0, 18, tyAt W 4⟩, ⟨5, 0, 20, tyAt W 5⟩, ⟨6, 0, 1, tyAt W 6⟩, ⟨7, 0, 1, tyAt W 7⟩, ⟨8, 0, 32, tyAt W 8⟩, ⟨9, 0, 64, tyAt W 9⟩, ⟨10, 0, 1, tyAt W 10⟩, ⟨11, 0, 1, tyAt W 11⟩, ⟨12, 0, 1, tyAt W 12⟩]
theorem GW.brel {W : World} (h : GW W) {b : Nat} {pl : Pl} (hb : (gpls W)[b]? = some pl) (ρ : Mp) : ∃ x, heap0[b]? = some x ∧ BRel ρ pl W x ∧ x.isRW = false := by
  match b, hb with
  | 0, hb | 1, hb | 2, hb | 3, hb | 6, hb | 7, hb | 8, hb | 9, hb | 10, hb | 11, hb | 12, hb => simp [gpls] at hb; subst hb; exact ⟨_, rfl, trivial, rfl⟩
  | 4, hb => simp [gpls] at hb; subst hb; exact ⟨_, rfl, ints_brel h.wide ρ rfl, rfl⟩
  | 5, hb => simp [gpls] at hb; subst hb; exact ⟨_, rfl, ints_brel h.pow ρ rfl, rfl⟩
  | b + 13, hb => simp [gpls] at hb
/-- Globals first, the arguments' memory behind them. -/
theorem GW.hrel {W : World} (h : GW W) (pls : List Pl) (σ : Heap) (hnt : ∀ (b : Nat) (x : Blk), σ[b]? = some x → x.isTys = false) (hl : ∀ (b : Nat) (pl : Pl), pls[b]? = some pl → ∃ x : Blk, σ[b]? = some x ∧ BRel (mpOf (gpls W ++ pls)) pl W x ∧ x.isRW = false) : HRel (mpOf (gpls W ++ pls)) (heap0 ++ σ) W :=
  hrel_of (gpls W ++ pls) _ (fun b pl hb => by
    by_cases hlt : b < 13
    · rw [List.getElem?_append_left (show b < (gpls W).length from hlt)] at hb
      obtain ⟨x, h1, h2, h3⟩ := h.brel hb (mpOf (gpls W ++ pls))
      exact ⟨x, by rw [List.getElem?_append_left (show b < heap0.length from hlt)]; exact h1, h2, h3⟩
    · rw [List.getElem?_append_right (show (gpls W).length ≤ b from by show 13 ≤ b; omega)] at hb
      obtain ⟨x, h1, h2, h3⟩ := hl _ _ hb
      exact ⟨x, by rw [List.getElem?_append_right (show heap0.length ≤ b from by show 13 ≤ b; omega)]; exact h1, h2, h3⟩) fun b x hx => by
    by_cases hlt : b < 13
    · rw [List.getElem?_append_left (show b < heap0.length from hlt)] at hx
      have := (heap0_ren hx id).1
      cases x with
      | tys _ _ _ => cases this
      | row _ _ => rfl
      | map _ _ => rfl
    · rw [List.getElem?_append_right (show heap0.length ≤ b from by show 13 ≤ b; omega)] at hx
      exact hnt _ _ hx
theorem glob_grel (W : World) (pls : List Pl) : GRel T (mpOf (gpls W ++ pls)) := fun g hg => by
  have := globLt g hg
  match g, this with
  | 0, _ => exact ⟨tyAt W 0, rfl⟩
  | 1, _ => exact ⟨tyAt W 1, rfl⟩
  | 2, _ => exact ⟨tyAt W 2, rfl⟩
  | 3, _ => exact ⟨tyAt W 3, rfl⟩
  | 4, _ => exact ⟨tyAt W 4, rfl⟩
  | 5, _ => exact ⟨tyAt W 5, rfl⟩
  | 6, _ => exact ⟨tyAt W 6, rfl⟩
  | 7, _ => exact ⟨tyAt W 7, rfl⟩
  | 8, _ => exact ⟨tyAt W 8, rfl⟩
  | 9, _ => exact ⟨tyAt W 9, rfl⟩
  | 10, _ => exact ⟨tyAt W 10, rfl⟩
  | 11, _ => exact ⟨tyAt W 11, rfl⟩
  | 12, _ => exact ⟨tyAt W 12, rfl⟩
theorem pow0_ok (σ : Heap) : PowE (heap0 ++ σ) := fun b hb => List.getElem?_append_left (show b < heap0.length from hb)
theorem pow0_rw {σ : Heap} (h : ∀ (b : Nat) (x : Blk), σ[b]? = some x → x.isRW = false) : ∀ (b : Nat) (x : Blk), (heap0 ++ σ)[b]? = some x → x.isRW = false := fun b x hb => by
  by_cases hlt : b < 13
  · rw [List.getElem?_append_left (show b < heap0.length from hlt)] at hb
    exact (heap0_ren hb id).2.2
  · rw [List.getElem?_append_right (show heap0.length ≤ b from by show 13 ≤ b; omega)] at hb
    exact h _ _ hb
theorem wide_data : (Rows.laid_flipbook_glyph_wide : DataW Unit) = Lib.tabData .i32 sigs := by rfl
theorem pow_data : (Rows.laid_internal_strconv_uint64pow10 : DataW Unit) = Lib.tabData .u64 pows := by rfl
theorem gw_wide {W : World} {l : List (String × DataW Unit)} (h : laidMet Tryz.prog l W) (hm : ("flipbook/glyph.wide", Rows.laid_flipbook_glyph_wide) ∈ l) : Ints W 4 .i32 sigs :=
  tab_ints gN4 gT4 Tryz.underlying361 Tryz.underlying21 cells21 cells361 h (by rw [← wide_data]; exact hm)
theorem gw_pow {W : World} {l : List (String × DataW Unit)} (h : laidMet Tryz.prog l W) (hm : ("internal/strconv.uint64pow10", Rows.laid_internal_strconv_uint64pow10) ∈ l) : Ints W 5 .u64 pows :=
  tab_ints gN5 gT5 Tryz.underlying370 Tryz.underlying65 cells65 cells370 h (by rw [← pow_data]; exact hm)
/-! ### Slices that came in -/
def wpl (W : World) : Pl := ⟨5, 0, 20, tyAt W 5⟩
theorem pow_nil {W : World} {zs : List Int} {k : IntKind} (h : Ints W 5 k zs) (hl : zs.length = 20) (ρ : Mp) : BRel ρ (wpl W) W (.row [] .ro) := by
  obtain ⟨ty, fr, hc⟩ := h
  exact ⟨_, ty, fr, hc, by simp [wpl, hl], by simp [wpl], fun j x hx => (by simp at hx), fun h => (by cases h), fun j hj => (by simp at hj), tyAt_of hc⟩
theorem exists_rows {α : Type} {en : α → List AVal} {ok : α → Prop} : ∀ {rows : List (List AVal)}, (∀ r ∈ rows, ∃ a, en a = r ∧ ok a) → ∃ xs : List α, xs.map en = rows ∧ ∀ a ∈ xs, ok a
  | [], _ => ⟨[], rfl, fun a h => by cases h⟩
  | r :: rows, h => by
    obtain ⟨a, ha, hok⟩ := h r List.mem_cons_self
    obtain ⟨xs, hx, hxs⟩ := exists_rows fun r hr => h r (List.mem_cons_of_mem _ hr)
    exact ⟨a :: xs, by simp [ha, hx], fun b hb => by
      rcases List.mem_cons.1 hb with rfl | hb
      · exact hok
      · exact hxs b hb⟩
set_option maxRecDepth 100000 in
/-- A slice that came in: block k has its elements. -/
theorem arg_sl {α : Type} (E : El α) (okα : α → Prop) {ss : List Sh} (hss : ss.length = E.z) (conv : ∀ r, ShOKs ss r → ∃ a, E.en a = r ∧ okα a) (k : Nat) {H : Type} {enc : TypeId × Value → H} {W : World} {hd : Bool}
    {t e : TypeId} (hq : eqOk Tryz.prog 40 e ss = true) (ht : Tryz.prog.underlying t = some (.slice e)) (hc : Tryz.prog.cellsOf e = ss.length) (hz : 0 < ss.length) {r : Reach} {b0 : Nat} {v : Value} (hval : Value.okWide Tryz.prog W r b0 t v)
    {d : DataW H} {ps : List MemPlace} (h : DataW.Trod enc Tryz.prog W 0 (fun _ => true) hd t v d ps) (hg : ∀ ρ, BRel ρ (wpl W) W (.row [] .ro)) :
    ∃ (pl : Pl) (xs : List α) (s : Sl), (∀ a ∈ xs, okα a) ∧ (∀ ρ, BRel ρ pl W (.row (E.all xs) .ro)) ∧ s.n = xs.length ∧ s.o = 0 ∧ ((s.b = none ∧ xs = []) ∨ s.b = some k) ∧
      ∀ (ρ : Mp) (lm : Lp), ρ k = some pl → VRel ρ lm ((tSl E.z).av s) v := by
  have h0 := arg_slice hq ht hc hz hval h hg
  clear hq ht hc hval h
  rcases h0 with h0 | ⟨pl, rows, h1, _, h3, h4⟩
  · refine ⟨wpl W, [], ⟨none, 0, 0⟩, List.forall_mem_nil _, ?_, rfl, rfl, .inl ⟨rfl, rfl⟩, fun ρ lm _ => ?_⟩
    · rw [E.all_nil]; exact hg
    · rw [h0]
      show VRel ρ lm (.slice none 0 0 E.z) _
      simp only [VRel]
      exact ⟨trivial, trivial, trivial⟩
  · obtain ⟨xs, hx, hok⟩ := exists_rows (en := E.en) (ok := okα) fun r hr => conv r (h1 r hr)
    refine ⟨pl, xs, ⟨some k, 0, xs.length⟩, hok, ?_, rfl, rfl, .inr rfl, fun ρ lm hk => ?_⟩
    · rw [El.all, hx]; exact h3
    · have := h4 ρ lm k hk
      rw [← hx, List.length_map, hss] at this
      exact this
theorem arg_is {α : Type} {E : El α} {σ : Heap} {s : Sl} {xs : List α} {k : Nat} (hn : s.n = xs.length) (ho : s.o = 0) (hb : (s.b = none ∧ xs = []) ∨ s.b = some k) (hr : σ.row? k = some (E.all xs)) (hl : xs.length ≤ 1099511627776) : s.Is E σ xs := by
  refine ⟨hn, hl, ?_⟩
  rcases hb with ⟨h1, h2⟩ | h1
  · exact .inl ⟨h1, ho, h2⟩
  · exact .inr ⟨k, _, h1, hr, by rw [ho, List.drop_zero, List.take_of_length_le (by rw [E.all_len]; exact Nat.le_refl _)], by rw [ho, E.all_len]; simp⟩
theorem conv_ev (r : List AVal) (h : ShOKs [.int .i64, .int .i64, .str, .int .i64, .int .i64] r) : ∃ a, eEv.en a = r ∧ True := by
  obtain ⟨_, _, rfl, ⟨t, rfl, _⟩, _, _, rfl, ⟨k, rfl, _⟩, _, _, rfl, ⟨d, rfl, _⟩, _, _, rfl, ⟨w, rfl, _⟩, _, _, rfl, ⟨h, rfl, _⟩, rfl⟩ := h
  exact ⟨⟨t, k, d, w, h⟩, rfl, trivial⟩
theorem conv_i64 (r : List AVal) (h : ShOKs [.int .i64] r) : ∃ a, eI64.en a = r ∧ True := by
  obtain ⟨_, _, rfl, ⟨k, rfl, hk⟩, rfl⟩ := h
  exact ⟨k, rfl, trivial⟩
/-! ### A struct that came in -/
theorem one_cell {cs : List Value} {i : Nat} {x : Value} (h : (cs.drop i).take 1 = [x]) : cs[i]? = some x := by
  have := congrArg (fun l => l[0]?) h
  simpa [List.getElem?_take, List.getElem?_drop] using this
theorem cell_one {cs : List Value} {i : Nat} {x : Value} (h : cs[i]? = some x) : (cs.drop i).take 1 = [x] := by
  have hi := (List.getElem?_eq_some_iff.1 h).1
  rw [List.drop_eq_getElem_cons hi, (List.getElem?_eq_some_iff.1 h).2]
  rfl
theorem cells50 : Tryz.prog.cellsOf 50 = 4 := by kernel_rfl
theorem cells37 : Tryz.prog.cellsOf 37 = 2 := by kernel_rfl
theorem cells47 : Tryz.prog.cellsOf 47 = 1 := by kernel_rfl
theorem cells48 : Tryz.prog.cellsOf 48 = 1 := by kernel_rfl
theorem cells3 : Tryz.prog.cellsOf 3 = 1 := by kernel_rfl
theorem types50 : Tryz.prog.cellTypes Tryz.prog.depth 50 = some [3, 3, 47, 48] := by kernel_rfl
end Go.Abs.TE
