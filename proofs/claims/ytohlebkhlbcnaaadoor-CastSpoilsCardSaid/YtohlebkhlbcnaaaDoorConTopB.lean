/-
A law's arguments and memory, as the machine has them (seat b).
-/
import Derived.Test.YtohlebkhlbcnaaaDoorMConP
import Derived.Test.YtohlebkhlbcnaaaDoorCards
import Derived.Test.YtohlebkhlbcnaaaDoorTie
import Derived.WalkKit
import Derived.ProofKit
import Derived.Deep.DeepHandedRow
import Derived.Lib.LaidU8
namespace Go.Abs.TB
open Go Go.Abs Go.Proofs Go.Proofs.YtohlebkhlbcnaaaDoor Go.ChangeShapes Go.WideShapes Go.ChangeAt Go.RowKit
theorem own : ownKnob Tryd.prog.godebug = none := by kernel_rfl
theorem laidOut : laidOutB Tryd.prog = true := by kernel_rfl
theorem cells24 : Tryd.prog.cellsOf 100 = 20 := by kernel_rfl
theorem cells81 : Tryd.prog.cellsOf 81 = 1 := by kernel_rfl
theorem cells5 : Tryd.prog.cellsOf 5 = 1 := by kernel_rfl
theorem cells70 : Tryd.prog.cellsOf 70 = 256 := by kernel_rfl
theorem cells72 : Tryd.prog.cellsOf 72 = 2 := by kernel_rfl
theorem cells73 : Tryd.prog.cellsOf 73 = 32 := by kernel_rfl
theorem gN0 : Tryd.prog.globalNamed "unicode/utf8.first" = some 0 := by kernel_rfl
theorem gN1 : Tryd.prog.globalNamed "unicode/utf8.acceptRanges" = some 1 := by kernel_rfl
theorem gN2 : Tryd.prog.globalNamed "strconv.ErrSyntax" = some 2 := by kernel_rfl
theorem gN3 : Tryd.prog.globalNamed "strconv.ErrRange" = some 3 := by kernel_rfl
theorem gN4 : Tryd.prog.globalNamed "internal/strconv.uint64pow10" = some 4 := by kernel_rfl
theorem gT0 : (Tryd.prog.globals[0]?).map (·.type) = some 70 := by kernel_rfl
theorem gT1 : (Tryd.prog.globals[1]?).map (·.type) = some 73 := by kernel_rfl
theorem gT2 : (Tryd.prog.globals[2]?).map (·.type) = some 53 := by kernel_rfl
theorem gT3 : (Tryd.prog.globals[3]?).map (·.type) = some 53 := by kernel_rfl
theorem gT4 : (Tryd.prog.globals[4]?).map (·.type) = some 100 := by kernel_rfl
theorem var_heap {W : World} {n : String} {g : Nat} {cs : Array Value} (hg : Tryd.prog.globalNamed n = some g) (h : W.var? Tryd.prog n = some cs) : ∃ ty fr, W.heap[g]? = some (.cells cs ty fr) := by
  unfold World.var? at h
  rw [hg] at h
  simp only [Option.bind_some] at h
  split at h
  · rename_i ty fr hc
    injection h with h
    subst h
    exact ⟨ty, fr, hc⟩
  · cases h
/-- The type that a block of the world bears. -/
def tyAt (W : World) (g : Nat) : TypeId := match W.heap[g]? with
  | some (.cells _ ty _) => ty
  | _ => 0
theorem tyAt_of {W : World} {g : Nat} {cs : Array Value} {ty : TypeId} {fr : Nat × Nat} (h : W.heap[g]? = some (.cells cs ty fr)) : ty = tyAt W g := by
  unfold tyAt
  rw [h]
/-- A global that holds these numbers. -/
def Ints (W : World) (g : Nat) (k : IntKind) (zs : List Int) : Prop := ∃ ty fr, W.heap[g]? = some (.cells (zs.map fun z => Value.int k z).toArray ty fr)
theorem ints_brel {W : World} {g : Nat} {k : IntKind} {zs : List Int} (h : Ints W g k zs) (ρ : Mp) {n : Nat} (hn : n = zs.length) : BRel ρ ⟨g, 0, n, tyAt W g⟩ W (.row (zs.map fun z => .int k z) .ro) := by
  subst hn
  obtain ⟨ty, fr, hc⟩ := h
  refine ⟨_, ty, fr, hc, by simp, by simp, fun j x hx => ?_, fun h => (by cases h), fun j hj v hv => ?_, tyAt_of hc⟩
  · rw [List.getElem?_map] at hx
    obtain ⟨n, hn, rfl⟩ := Option.map_eq_some_iff.1 hx
    exact ⟨.int k n, by simp [hn], by simp [VRel]⟩
  · simp only [Nat.zero_add] at hv
    rw [List.getElem?_toArray, List.getElem?_map] at hv
    obtain ⟨n, hn, rfl⟩ := Option.map_eq_some_iff.1 hv
    rfl
def Errs (W : World) (g : Nat) : Prop := ∃ ty fr u v, W.heap[g]? = some (.cells #[.iface u v] ty fr)
theorem errs_brel {W : World} {g : Nat} (h : Errs W g) (ρ : Mp) : BRel ρ ⟨g, 0, 1, tyAt W g⟩ W (.row [.errv false] .ro) := by
  obtain ⟨ty, fr, u, v, hc⟩ := h
  refine ⟨_, ty, fr, hc, by simp, by simp, fun j x hx => ?_, fun h => (by cases h), fun j hj v' hv => ?_, tyAt_of hc⟩
  · cases j with
    | zero => simp at hx; subst hx; exact ⟨.iface u v, by simp, u, v, rfl⟩
    | succ j => simp at hx
  · cases j with
    | zero => simp at hv; subst hv; rfl
    | succ j => simp at hv
theorem tab_ints {W : World} {l : List (String × DataW Unit)} {name : String} {k : IntKind} {zs : List Int} {g : Nat} {t e : TypeId} {n : Nat}
    (hg : Tryd.prog.globalNamed name = some g) (hty : (Tryd.prog.globals[g]?).map (·.type) = some t) (ht : Tryd.prog.underlying t = some (.array n e)) (he : Tryd.prog.underlying e = some (.int k)) (hce : Tryd.prog.cellsOf e = 1) (hct : Tryd.prog.cellsOf t = n)
    (h : laidMet Tryd.prog l W) (hm : (name, Lib.tabData k zs) ∈ l) : Ints W g k zs := by
  obtain ⟨g', t', cs, fuel, p, hg', ht', hvar, hd⟩ := Lib.laidMet.reads h hm
  obtain rfl := Option.some.inj (hg.symm.trans hg')
  obtain rfl := Option.some.inj (hty.symm.trans ht')
  obtain ⟨ty, fr, hc⟩ := var_heap hg hvar
  refine ⟨ty, fr, ?_⟩
  rw [hc, ← Lib.cells_of_tab ht he hce hct hd]
def accInts : List Int := (List.range 32).map fun j => (if j % 2 = 0 then Lib.accLo (j / 2) else Lib.accHi (j / 2) : Int)
theorem acc_ints {W : World} {l : List (String × DataW Unit)} (h : laidMet Tryd.prog l W) (hm : ("unicode/utf8.acceptRanges", Lib.acceptData) ∈ l) : Ints W 1 .u8 accInts := by
  obtain ⟨g, t, cs, fuel, p, hg, hty, hvar, hd⟩ := Lib.laidMet.reads h hm
  obtain rfl := Option.some.inj (gN1.symm.trans hg)
  obtain rfl := Option.some.inj (gT1.symm.trans hty)
  obtain ⟨ty, fr, hc⟩ := var_heap gN1 hvar
  obtain ⟨xs, m, -, -, hlen, -, -⟩ := DataW.trod_array Tryd.underlying73 hd
  rw [cells73] at hlen
  have two : ∀ i, i < 16 → (cs.toList.drop (i * 2)).take 2 = [Value.int .u8 (Lib.accLo i), Value.int .u8 (Lib.accHi i)] := fun i hi => by
    obtain ⟨fuel', d, q, hdi, he⟩ := Lib.array_elem Tryd.underlying73 hd i hi
    simp only [List.getElem?_map, List.getElem?_range hi, Option.map_some, Option.some.injEq] at hdi
    subst hdi
    rw [cells72] at he
    exact Lib.ints_of_struct Tryd.underlying72 (fun j f hj => by
      match j, hj with
      | 0, hj => simp at hj; subst hj; exact ⟨Tryd.underlying5, rfl, cells5⟩
      | 1, hj => simp at hj; subst hj; exact ⟨Tryd.underlying5, rfl, cells5⟩
      | j + 2, hj => simp at hj) cells72 he
  refine ⟨ty, fr, ?_⟩
  rw [hc]
  congr 2
  apply Array.ext'
  apply List.ext_getElem?
  intro j
  by_cases hj : j < 32
  · have h2 := two (j / 2) (by omega)
    have h3 : ((cs.toList.drop (j / 2 * 2)).take 2)[j % 2]? = cs.toList[j]? := by
      rw [List.getElem?_take_of_lt (by omega), List.getElem?_drop]
      congr 1; omega
    rw [← h3, h2]
    simp only [accInts, List.map_map, List.getElem?_map, List.getElem?_range hj, Option.map_some, Function.comp]
    rcases Nat.mod_two_eq_zero_or_one j with h0 | h0
    · rw [h0, if_pos rfl]; rfl
    · rw [h0, if_neg (by decide)]; rfl
  · rw [List.getElem?_eq_none (by omega), List.getElem?_eq_none (by simp [accInts]; omega)]
theorem trod_iface {H : Type} {enc : TypeId × Value → H} {P : Program} {w : World} {base : Nat} {sp : Nat → Bool} {fuel : Nat} {t : TypeId} {ms : Array (String × TypeId)} {cs : List Value} {nm : String} {d : DataW H} {p : List MemPlace}
    (ht : P.underlying t = some (.interface ms)) (h : DataW.trod enc P w base sp false fuel t cs = some (.iface nm d, p)) : ∃ u v, cs = [.iface u v] := by
  cases fuel with
  | zero => simp [DataW.trod] at h
  | succ fuel =>
    unfold DataW.trod at h
    rw [ht] at h
    split at h <;> simp_all
theorem err_is {W : World} {l : List (String × DataW Unit)} {name nm : String} {d : DataW Unit} {g : Nat} (hg : Tryd.prog.globalNamed name = some g) (hty : (Tryd.prog.globals[g]?).map (·.type) = some 53)
    (h : laidMet Tryd.prog l W) (hm : (name, .iface nm d) ∈ l) : Errs W g := by
  obtain ⟨g', t', cs, fuel, p, hg', ht', hvar, hd⟩ := Lib.laidMet.reads h hm
  obtain rfl := Option.some.inj (hg.symm.trans hg')
  obtain rfl := Option.some.inj (hty.symm.trans ht')
  obtain ⟨ty, fr, hc⟩ := var_heap hg hvar
  obtain ⟨u, v, e⟩ := trod_iface Tryd.underlying53 hd
  refine ⟨ty, fr, u, v, ?_⟩
  rw [hc]
  congr 2
  exact Array.ext' e
/-- What a world has of the globals. -/
structure GW (u e : Bool) (W : World) : Prop where
  pow : Ints W 4 .u64 powInts
  first : u = true → Ints W 0 .u8 (Lib.firstTab)
  acc : u = true → Ints W 1 .u8 accInts
  syn : e = true → Errs W 2
  rng : e = true → Errs W 3
def gpls (W : World) : List Pl := [⟨0, 0, 256, tyAt W 0⟩, ⟨1, 0, 32, tyAt W 1⟩, ⟨2, 0, 1, tyAt W 2⟩, ⟨3, 0, 1, tyAt W 3⟩, ⟨4, 0, 20, tyAt W 4⟩]
theorem firstRow_eq : firstRow = Lib.firstTab.map fun z => .int .u8 z := by
  unfold firstRow Lib.firstTab
  rw [List.map_map]; rfl
theorem accRow_eq : accRow = accInts.map fun z => .int .u8 z := by
  unfold accRow accInts
  rw [List.map_map]
  rfl
theorem GW.brel {u e : Bool} {W : World} (h : GW u e W) {b : Nat} {pl : Pl} (hb : (gpls W)[b]? = some pl) (ρ : Mp) : ∃ x, (pow0 u e)[b]? = some x ∧ BRel ρ pl W x ∧ x.isRW = false := by
  match b, hb with
  | 0, hb =>
    simp [gpls] at hb; subst hb
    cases u with
    | true => exact ⟨_, rfl, by rw [show (bif true then firstRow else []) = firstRow from rfl, firstRow_eq]; exact ints_brel (h.first rfl) ρ (by simp [Lib.firstTab]), rfl⟩
    | false => exact ⟨_, rfl, trivial, rfl⟩
  | 1, hb =>
    simp [gpls] at hb; subst hb
    cases u with
    | true => exact ⟨_, rfl, by rw [show (bif true then accRow else []) = accRow from rfl, accRow_eq]; exact ints_brel (h.acc rfl) ρ (by simp [accInts]), rfl⟩
    | false => exact ⟨_, rfl, trivial, rfl⟩
  | 2, hb =>
    simp [gpls] at hb; subst hb
    cases e with
    | true => exact ⟨_, rfl, errs_brel (h.syn rfl) ρ, rfl⟩
    | false => exact ⟨_, rfl, trivial, rfl⟩
  | 3, hb =>
    simp [gpls] at hb; subst hb
    cases e with
    | true => exact ⟨_, rfl, errs_brel (h.rng rfl) ρ, rfl⟩
    | false => exact ⟨_, rfl, trivial, rfl⟩
  | 4, hb => simp [gpls] at hb; subst hb; exact ⟨_, rfl, ints_brel h.pow ρ rfl, rfl⟩
  | b + 5, hb => simp [gpls] at hb
/-- Globals first, the arguments' memory behind them. -/
theorem GW.hrel {u e : Bool} {W : World} (h : GW u e W) (pls : List Pl) (σ : Heap) (hnt : ∀ (b : Nat) (x : Blk), σ[b]? = some x → x.isTys = false) (hl : ∀ (b : Nat) (pl : Pl), pls[b]? = some pl → ∃ x : Blk, σ[b]? = some x ∧ BRel (mpOf (gpls W ++ pls)) pl W x ∧ x.isRW = false) : HRel (mpOf (gpls W ++ pls)) (pow0 u e ++ σ) W :=
  hrel_of (gpls W ++ pls) _ (fun b pl hb => by
    by_cases hlt : b < 5
    · rw [List.getElem?_append_left (show b < (gpls W).length from hlt)] at hb
      obtain ⟨x, h1, h2, h3⟩ := h.brel hb (mpOf (gpls W ++ pls))
      exact ⟨x, by rw [List.getElem?_append_left (show b < (pow0 u e).length from hlt)]; exact h1, h2, h3⟩
    · rw [List.getElem?_append_right (show (gpls W).length ≤ b from by show 5 ≤ b; omega)] at hb
      obtain ⟨x, h1, h2, h3⟩ := hl _ _ hb
      exact ⟨x, by rw [List.getElem?_append_right (show (pow0 u e).length ≤ b from by show 5 ≤ b; omega)]; exact h1, h2, h3⟩) fun b x hx => by
    by_cases hlt : b < 5
    · rw [List.getElem?_append_left (show b < (pow0 u e).length from hlt)] at hx
      match b, hx with
      | 0, hx | 1, hx | 2, hx | 3, hx | 4, hx => simp [pow0] at hx; subst hx; rfl
    · rw [List.getElem?_append_right (show (pow0 u e).length ≤ b from by show 5 ≤ b; omega)] at hx
      exact hnt _ _ hx
theorem glob_grel (W : World) (pls : List Pl) : GRel T (mpOf (gpls W ++ pls)) := fun g hg => by
  have := globLt g hg
  match g, this with
  | 0, _ => exact ⟨tyAt W 0, rfl⟩
  | 1, _ => exact ⟨tyAt W 1, rfl⟩
  | 2, _ => exact ⟨tyAt W 2, rfl⟩
  | 3, _ => exact ⟨tyAt W 3, rfl⟩
  | 4, _ => exact ⟨tyAt W 4, rfl⟩
theorem pow0_ok (u e : Bool) (σ : Heap) : PowOK u e (pow0 u e ++ σ) := fun b hb => List.getElem?_append_left (show b < (pow0 u e).length from hb)
theorem pow0_rw {u e : Bool} {σ : Heap} (h : ∀ (b : Nat) (x : Blk), σ[b]? = some x → x.isRW = false) : ∀ (b : Nat) (x : Blk), (pow0 u e ++ σ)[b]? = some x → x.isRW = false := fun b x hb => by
  by_cases hlt : b < 5
  · rw [List.getElem?_append_left (show b < (pow0 u e).length from hlt)] at hb
    exact (pow0_ren hb (fun b => b)).2.2
  · rw [List.getElem?_append_right (show (pow0 u e).length ≤ b from by show 5 ≤ b; omega)] at hb
    exact h _ _ hb
theorem open_str {H : Type} {enc : TypeId × Value → H} {P : Program} {W : World} {base : Nat} {sp : Nat → Bool} {hd : Bool} {r : Reach} {b0 : Nat} {t : TypeId} {v : Value} {d : DataW H} {ps : List MemPlace}
    (ht : P.underlying t = some .string) (hval : Value.okWide P W r b0 t v) (h : DataW.Trod enc P W base sp hd t v d ps) : ∃ s : ByteArray, v = .string s ∧ d = .lit (.string s.data.toList) ∧ ps = [] ∧ s.size ≤ maxLen := by
  obtain ⟨s, rfl⟩ := okWide_string ht hval
  obtain ⟨fuel, hf⟩ := h
  obtain ⟨s', h1, hx, hw⟩ := DataW.trod_string ht hf
  simp [Value.cells] at h1
  subst h1
  simp only [Prod.mk.injEq] at hx
  exact ⟨s, rfl, hx.1, hx.2, hw⟩
def laid3 : List (String × DataW Unit) := [("math/bits.deBruijn32tab", Rows.laid_math_bits_deBruijn32tab), ("math/bits.deBruijn64tab", Rows.laid_math_bits_deBruijn64tab), ("internal/strconv.uint64pow10", Rows.laid_internal_strconv_uint64pow10)]
theorem pow_data : (Rows.laid_internal_strconv_uint64pow10 : DataW Unit) = Lib.tabData .u64 powInts := by rfl
theorem acc_data : (Rows.laid_unicode_utf8_acceptRanges : DataW Unit) = Lib.acceptData := by rfl
theorem first_data : (Rows.laid_unicode_utf8_first : DataW Unit) = Lib.tabData .u8 Lib.firstTab := by kernel_rfl
theorem gw_pow {W : World} {l : List (String × DataW Unit)} (h : laidMet Tryd.prog l W) (hm : ("internal/strconv.uint64pow10", Rows.laid_internal_strconv_uint64pow10) ∈ l) : Ints W 4 .u64 powInts :=
  tab_ints gN4 gT4 Tryd.underlying100 Tryd.underlying81 cells81 cells24 h (by rw [← pow_data]; exact hm)
theorem gw_first {W : World} {l : List (String × DataW Unit)} (h : laidMet Tryd.prog l W) (hm : ("unicode/utf8.first", Rows.laid_unicode_utf8_first) ∈ l) : Ints W 0 .u8 Lib.firstTab :=
  tab_ints gN0 gT0 Tryd.underlying70 Tryd.underlying5 cells5 cells70 h (by rw [← first_data]; exact hm)
theorem gw_acc {W : World} {l : List (String × DataW Unit)} (h : laidMet Tryd.prog l W) (hm : ("unicode/utf8.acceptRanges", Rows.laid_unicode_utf8_acceptRanges) ∈ l) : Ints W 1 .u8 accInts :=
  acc_ints h (by rw [← acc_data]; exact hm)
theorem gw_syn {W : World} {l : List (String × DataW Unit)} (h : laidMet Tryd.prog l W) (hm : ("strconv.ErrSyntax", Rows.laid_strconv_ErrSyntax) ∈ l) : Errs W 2 := err_is gN2 gT2 h hm
theorem gw_rng {W : World} {l : List (String × DataW Unit)} (h : laidMet Tryd.prog l W) (hm : ("strconv.ErrRange", Rows.laid_strconv_ErrRange) ∈ l) : Errs W 3 := err_is gN3 gT3 h hm
end Go.Abs.TB
