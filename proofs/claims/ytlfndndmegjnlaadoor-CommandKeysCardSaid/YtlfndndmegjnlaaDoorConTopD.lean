/-
A law's arguments and memory, as the machine has them (seat d).
-/
import Derived.Test.YtlfndndmegjnlaaDoorMConS
import Derived.Test.YtlfndndmegjnlaaDoorCards
import Derived.Test.YtlfndndmegjnlaaDoorTie
import Derived.WalkKit
import Derived.ProofKit
import Derived.Deep.DeepHandedRow
import Derived.Lib.LaidU8
namespace Go.Abs.TD
open Go Go.Abs Go.Proofs Go.Proofs.YtlfndndmegjnlaaDoor Go.ChangeShapes Go.WideShapes Go.ChangeAt Go.RowKit
theorem own : ownKnob Tryd.prog.godebug = none := by kernel_rfl
theorem laidOut : laidOutB Tryd.prog = true := by kernel_rfl
theorem cells93 : Tryd.prog.cellsOf 93 = 20 := by kernel_rfl
theorem cells78 : Tryd.prog.cellsOf 78 = 1 := by kernel_rfl
theorem cells53 : Tryd.prog.cellsOf 53 = 18 := by kernel_rfl
theorem cells9 : Tryd.prog.cellsOf 9 = 1 := by kernel_rfl
theorem gN0 : Tryd.prog.globalNamed "flipbook/command.words" = some 0 := by kernel_rfl
theorem gN2 : Tryd.prog.globalNamed "internal/strconv.uint64pow10" = some 2 := by kernel_rfl
theorem gN3 : Tryd.prog.globalNamed "strconv.ErrSyntax" = some 3 := by kernel_rfl
theorem gN4 : Tryd.prog.globalNamed "strconv.ErrRange" = some 4 := by kernel_rfl
theorem gT0 : (Tryd.prog.globals[0]?).map (·.type) = some 53 := by kernel_rfl
theorem gT2 : (Tryd.prog.globals[2]?).map (·.type) = some 93 := by kernel_rfl
theorem gT3 : (Tryd.prog.globals[3]?).map (·.type) = some 69 := by kernel_rfl
theorem gT4 : (Tryd.prog.globals[4]?).map (·.type) = some 69 := by kernel_rfl
theorem var_heap {W : World} {n : String} {g : Nat} {cs : Array Value} (hg : Tryd.prog.globalNamed n = some g) (h : W.var? Tryd.prog n = some cs) : ∃ ty fr, W.heap[g]? = some (.cells cs ty fr) := by
  unfold World.var? at h
  rw [hg] at h
  simp only [Option.bind_some] at h
  split at h
  · rename_i ty fr hc
    injection h with h
    subst h
    exact ⟨ty, fr, hc⟩
  · cases h
/-- A global that holds these numbers. -/
def Ints (W : World) (g : Nat) (k : IntKind) (zs : List Int) : Prop := ∃ ty fr, W.heap[g]? = some (.cells (zs.map fun z => Value.int k z).toArray ty fr)
theorem ints_brel {W : World} {g : Nat} {k : IntKind} {zs : List Int} (h : Ints W g k zs) (ρ : Mp) {n : Nat} (hn : n = zs.length) : BRel ρ ⟨g, 0, n⟩ W (.row (zs.map fun z => .int k z) .ro) := by
  subst hn
  obtain ⟨ty, fr, hc⟩ := h
  refine ⟨_, ty, fr, hc, by simp, by simp, fun j x hx => ?_, fun h => (by cases h), fun j hj v hv => ?_⟩
  · rw [List.getElem?_map] at hx
    obtain ⟨n, hn, rfl⟩ := Option.map_eq_some_iff.1 hx
    exact ⟨.int k n, by simp [hn], by simp [VRel]⟩
  · simp only [Nat.zero_add] at hv
    rw [List.getElem?_toArray, List.getElem?_map] at hv
    obtain ⟨n, hn, rfl⟩ := Option.map_eq_some_iff.1 hv
    rfl
def Errs (W : World) (g : Nat) : Prop := ∃ ty fr u v, W.heap[g]? = some (.cells #[.iface u v] ty fr)
theorem errs_brel {W : World} {g : Nat} (h : Errs W g) (ρ : Mp) : BRel ρ ⟨g, 0, 1⟩ W (.row [.errv false] .ro) := by
  obtain ⟨ty, fr, u, v, hc⟩ := h
  refine ⟨_, ty, fr, hc, by simp, by simp, fun j x hx => ?_, fun h => (by cases h), fun j hj v' hv => ?_⟩
  · cases j with
    | zero => simp at hx; subst hx; exact ⟨.iface u v, by simp, u, v, rfl⟩
    | succ j => simp at hx
  · cases j with
    | zero => simp at hv; subst hv; rfl
    | succ j => simp at hv
theorem tab_ints {W : World} {l : List (String × DataW Unit)} {name : String} {k : IntKind} {zs : List Int} {g : Nat} {t e : TypeId} {n : Nat}
    (hg : Tryd.prog.globalNamed name = some g) (hty : (Tryd.prog.globals[g]?).map (·.type) = some t) (ht : Tryd.prog.underlying t = some (.array n e)) (he : Tryd.prog.underlying e = some (.int k)) (hce : Tryd.prog.cellsOf e = 1) (hct : Tryd.prog.cellsOf t = n)
    (h : laidMet Tryd.prog l W) (hm : (name, Lib.tabData k zs) ∈ l) : Ints W g k zs := by
  obtain ⟨g', t', cs, fuel, p, hg', ht', hvar, hd⟩ := Lib.laidMet.reads h hm
  obtain rfl := Option.some.inj (hg.symm.trans hg')
  obtain rfl := Option.some.inj (hty.symm.trans ht')
  obtain ⟨ty, fr, hc⟩ := var_heap hg hvar
  refine ⟨ty, fr, ?_⟩
  rw [hc, ← Lib.cells_of_tab ht he hce hct hd]
/-- A global that holds these texts. -/
def Strs (W : World) (g : Nat) (ws : List (List UInt8)) : Prop := ∃ ty fr, W.heap[g]? = some (.cells (ws.map fun w => Value.string (ba w)).toArray ty fr)
theorem strs_brel {W : World} {g : Nat} {ws : List (List UInt8)} (h : Strs W g ws) (ρ : Mp) {n : Nat} (hn : n = ws.length) : BRel ρ ⟨g, 0, n⟩ W (.row (ws.map fun w => .str (ba w)) .ro) := by
  subst hn
  obtain ⟨ty, fr, hc⟩ := h
  refine ⟨_, ty, fr, hc, by simp, by simp, fun j x hx => ?_, fun h => (by cases h), fun j hj v hv => ?_⟩
  · rw [List.getElem?_map] at hx
    obtain ⟨n, hn, rfl⟩ := Option.map_eq_some_iff.1 hx
    exact ⟨.string (ba n), by simp [hn], by simp [VRel]⟩
  · simp only [Nat.zero_add] at hv
    rw [List.getElem?_toArray, List.getElem?_map] at hv
    obtain ⟨n, hn, rfl⟩ := Option.map_eq_some_iff.1 hv
    rfl
theorem words_strs {W : World} {l : List (String × DataW Unit)} (h : laidMet Tryd.prog l W) (hm : ("flipbook/command.words", (.agg (wordsL.map fun w => .lit (.string w)) : DataW Unit)) ∈ l) : Strs W 0 wordsL := by
  obtain ⟨g, t, cs, fuel, p, hg, hty, hvar, hd⟩ := Lib.laidMet.reads h hm
  obtain rfl := Option.some.inj (gN0.symm.trans hg)
  obtain rfl := Option.some.inj (gT0.symm.trans hty)
  obtain ⟨ty, fr, hc⟩ := var_heap gN0 hvar
  obtain ⟨xs, m, -, -, hlen, -, -⟩ := DataW.trod_array Tryd.underlying53 hd
  rw [cells53] at hlen
  refine ⟨ty, fr, ?_⟩
  rw [hc]
  congr 2
  apply Array.ext'
  apply List.ext_getElem?
  intro j
  by_cases hj : j < 18
  · obtain ⟨fuel', d, q, hdi, he⟩ := Lib.array_elem Tryd.underlying53 hd j hj
    rw [cells9] at he
    obtain ⟨s', h1, h2, _⟩ := DataW.trod_string Tryd.underlying9 he
    have h3 : ((cs.toList.drop (j * 1)).take 1)[0]? = cs.toList[j]? := by
      rw [List.getElem?_take_of_lt (by omega), List.getElem?_drop]
      congr 1; omega
    rw [← h3, h1]
    simp only [Prod.mk.injEq] at h2
    rw [List.getElem?_map] at hdi
    obtain ⟨w, hw, hdw⟩ := Option.map_eq_some_iff.1 hdi
    rw [← hdw] at h2
    simp only [DataW.lit.injEq, Lit.string.injEq] at h2
    simp only [List.getElem?_map, hw, Option.map_some, List.getElem?_cons_zero]
    rw [h2.1, ← ba_self]
  · rw [List.getElem?_eq_none (by omega), List.getElem?_eq_none (by rw [List.length_map]; show 18 ≤ j; omega)]
theorem trod_iface {H : Type} {enc : TypeId × Value → H} {P : Program} {w : World} {base : Nat} {sp : Nat → Bool} {fuel : Nat} {t : TypeId} {ms : Array (String × TypeId)} {cs : List Value} {nm : String} {d : DataW H} {p : List MemPlace}
    (ht : P.underlying t = some (.interface ms)) (h : DataW.trod enc P w base sp false fuel t cs = some (.iface nm d, p)) : ∃ u v, cs = [.iface u v] := by
  cases fuel with
  | zero => simp [DataW.trod] at h
  | succ fuel =>
    unfold DataW.trod at h
    rw [ht] at h
    split at h <;> simp_all
theorem err_is {W : World} {l : List (String × DataW Unit)} {name nm : String} {d : DataW Unit} {g : Nat} (hg : Tryd.prog.globalNamed name = some g) (hty : (Tryd.prog.globals[g]?).map (·.type) = some 69)
    (h : laidMet Tryd.prog l W) (hm : (name, .iface nm d) ∈ l) : Errs W g := by
  obtain ⟨g', t', cs, fuel, p, hg', ht', hvar, hd⟩ := Lib.laidMet.reads h hm
  obtain rfl := Option.some.inj (hg.symm.trans hg')
  obtain rfl := Option.some.inj (hty.symm.trans ht')
  obtain ⟨ty, fr, hc⟩ := var_heap hg hvar
  obtain ⟨u, v, e⟩ := trod_iface Tryd.underlying69 hd
  refine ⟨ty, fr, u, v, ?_⟩
  rw [hc]
  congr 2
  exact Array.ext' e
/-- What a world has of the globals. -/
structure GW (m : Int) (W : World) : Prop where
  words : Strs W 0 wordsL
  max : Ints W 1 .i64 [m]
  pow : Ints W 2 .u64 powInts
  syn : Errs W 3
  rng : Errs W 4
def glob0 (m : Int) : Heap := [.row wordsRow .ro, .row [.int .i64 m] .ro, .row powRow .ro, .row [.errv false] .ro, .row [.errv false] .ro]
def gpls : List Pl := [⟨0, 0, 18⟩, ⟨1, 0, 1⟩, ⟨2, 0, 20⟩, ⟨3, 0, 1⟩, ⟨4, 0, 1⟩]
theorem GW.brel {m : Int} {W : World} (h : GW m W) {b : Nat} {pl : Pl} (hb : gpls[b]? = some pl) (ρ : Mp) : ∃ x, (glob0 m)[b]? = some x ∧ BRel ρ pl W x ∧ x.isRW = false := by
  match b, hb with
  | 0, hb => simp [gpls] at hb; subst hb; exact ⟨_, rfl, strs_brel h.words ρ rfl, rfl⟩
  | 1, hb => simp [gpls] at hb; subst hb; exact ⟨_, rfl, ints_brel h.max ρ rfl, rfl⟩
  | 2, hb => simp [gpls] at hb; subst hb; exact ⟨_, rfl, ints_brel h.pow ρ rfl, rfl⟩
  | 3, hb => simp [gpls] at hb; subst hb; exact ⟨_, rfl, errs_brel h.syn ρ, rfl⟩
  | 4, hb => simp [gpls] at hb; subst hb; exact ⟨_, rfl, errs_brel h.rng ρ, rfl⟩
  | b + 5, hb => simp [gpls] at hb
/-- Globals first, the arguments' memory behind them. -/
theorem GW.hrel {m : Int} {W : World} (h : GW m W) (pls : List Pl) (σ : Heap) (hl : ∀ (b : Nat) (pl : Pl), pls[b]? = some pl → ∃ x : Blk, σ[b]? = some x ∧ BRel (mpOf (gpls ++ pls)) pl W x ∧ x.isRW = false) : HRel (mpOf (gpls ++ pls)) (glob0 m ++ σ) W :=
  hrel_of (gpls ++ pls) _ fun b pl hb => by
    by_cases hlt : b < 5
    · rw [List.getElem?_append_left (show b < gpls.length from hlt)] at hb
      obtain ⟨x, h1, h2, h3⟩ := h.brel hb (mpOf (gpls ++ pls))
      exact ⟨x, by rw [List.getElem?_append_left (show b < (glob0 m).length from hlt)]; exact h1, h2, h3⟩
    · rw [List.getElem?_append_right (show gpls.length ≤ b from by show 5 ≤ b; omega)] at hb
      obtain ⟨x, h1, h2, h3⟩ := hl _ _ hb
      exact ⟨x, by rw [List.getElem?_append_right (show (glob0 m).length ≤ b from by show 5 ≤ b; omega)]; exact h1, h2, h3⟩
theorem globLt (g : Nat) (h : T.glob g = true) : g < 5 := by
  rcases Nat.lt_or_ge g 5 with h5 | h5
  · exact h5
  · exfalso
    match g, h5, h with
    | g + 5, _, h => cases h
theorem glob_grel (pls : List Pl) : GRel T (mpOf (gpls ++ pls)) := fun g hg => by
  have := globLt g hg
  match g, this with
  | 0, _ | 1, _ | 2, _ | 3, _ | 4, _ => rfl
theorem glob0_ok (m : Int) (σ : Heap) : GC (glob0 m ++ σ) := ⟨rfl, ⟨m, rfl⟩, rfl, rfl, rfl⟩
theorem glob0_rw {m : Int} {σ : Heap} (h : ∀ (b : Nat) (x : Blk), σ[b]? = some x → x.isRW = false) : ∀ (b : Nat) (x : Blk), (glob0 m ++ σ)[b]? = some x → x.isRW = false := fun b x hb => by
  by_cases hlt : b < 5
  · rw [List.getElem?_append_left (show b < (glob0 m).length from hlt)] at hb
    match b, hlt, hb with
    | 0, _, hb => injection hb with hb; subst hb; rfl
    | 1, _, hb => injection hb with hb; subst hb; rfl
    | 2, _, hb => injection hb with hb; subst hb; rfl
    | 3, _, hb => injection hb with hb; subst hb; rfl
    | 4, _, hb => injection hb with hb; subst hb; rfl
  · rw [List.getElem?_append_right (show (glob0 m).length ≤ b from by show 5 ≤ b; omega)] at hb
    exact h _ _ hb
/-- The memory's limit holds some number. -/
theorem max_ints {W : World} (h : W.ShapedOpen Tryd.prog) : ∃ m, Ints W 1 .i64 [m] := by
  have hg : 1 < Tryd.prog.globals.size := of_decide_eq_true (by kernel_rfl)
  have h0 : ((begin Tryd.prog (fun _ _ => 0) default).world.heap[1]?).bind Obj.row? = some (#[.int .i64 0], 3) := by kernel_rfl
  obtain ⟨m, hm⟩ := cell_of_shapedOpen_int (k := .i64) h hg h0 rfl (by kernel_rfl) (by kernel_rfl) Tryd.underlying3
  obtain ⟨cs, hh, hs, _⟩ := h.1 1 _ 3 hg h0
  have e : cs = #[.int .i64 m] := by
    simp only [World.cell?, hh] at hm
    have h1 : cs.size = 1 := hs
    apply Array.ext'
    apply List.ext_getElem?
    intro j
    cases j with
    | zero => simpa using hm
    | succ j => rw [List.getElem?_eq_none (by simp; omega), List.getElem?_eq_none (by simp)]
  subst e
  exact ⟨m, 3, _, hh⟩
theorem open_str {H : Type} {enc : TypeId × Value → H} {P : Program} {W : World} {base : Nat} {sp : Nat → Bool} {hd : Bool} {r : Reach} {b0 : Nat} {t : TypeId} {v : Value} {d : DataW H} {ps : List MemPlace}
    (ht : P.underlying t = some .string) (hval : Value.okWide P W r b0 t v) (h : DataW.Trod enc P W base sp hd t v d ps) : ∃ s : ByteArray, v = .string s ∧ d = .lit (.string s.data.toList) ∧ ps = [] ∧ s.size ≤ maxLen := by
  obtain ⟨s, rfl⟩ := okWide_string ht hval
  obtain ⟨fuel, hf⟩ := h
  obtain ⟨s', h1, hx, hw⟩ := DataW.trod_string ht hf
  simp [Value.cells] at h1
  subst h1
  simp only [Prod.mk.injEq] at hx
  exact ⟨s, rfl, hx.1, hx.2, hw⟩
theorem pow_data : (Rows.laid_internal_strconv_uint64pow10 : DataW Unit) = Lib.tabData .u64 powInts := by rfl
theorem words_data : (Rows.laid_flipbook_command_words : DataW Unit) = .agg (wordsL.map fun w => .lit (.string w)) := by rfl
theorem gw_pow {W : World} {l : List (String × DataW Unit)} (h : laidMet Tryd.prog l W) (hm : ("internal/strconv.uint64pow10", Rows.laid_internal_strconv_uint64pow10) ∈ l) : Ints W 2 .u64 powInts :=
  tab_ints gN2 gT2 Tryd.underlying93 Tryd.underlying78 cells78 cells93 h (by rw [← pow_data]; exact hm)
theorem gw_words {W : World} {l : List (String × DataW Unit)} (h : laidMet Tryd.prog l W) (hm : ("flipbook/command.words", Rows.laid_flipbook_command_words) ∈ l) : Strs W 0 wordsL := words_strs h (by rw [← words_data]; exact hm)
theorem gw_syn {W : World} {l : List (String × DataW Unit)} (h : laidMet Tryd.prog l W) (hm : ("strconv.ErrSyntax", Rows.laid_strconv_ErrSyntax) ∈ l) : Errs W 3 := err_is gN3 gT3 h hm
theorem gw_rng {W : World} {l : List (String × DataW Unit)} (h : laidMet Tryd.prog l W) (hm : ("strconv.ErrRange", Rows.laid_strconv_ErrRange) ∈ l) : Errs W 4 := err_is gN4 gT4 h hm
end Go.Abs.TD
