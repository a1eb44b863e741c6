/-
A law's arguments and memory, as the machine has them (seat b).
-/
import Derived.Test.YtohlebkhlbcnaaaDoorMConP
import Derived.Test.YtohlebkhlbcnaaaDoorCards
import Derived.Test.YtohlebkhlbcnaaaDoorTie
import Derived.WalkKit
import Derived.ProofKit
import Derived.Deep.DeepHandedRow
namespace Go.Abs.TB
open Go Go.Abs Go.Proofs Go.Proofs.YtohlebkhlbcnaaaDoor Go.ChangeShapes Go.WideShapes Go.ChangeAt Go.RowKit
theorem gPow : Tryd.prog.globalNamed "internal/strconv.uint64pow10" = some 4 := by kernel_rfl
theorem gPowType : (Tryd.prog.globals[4]?).map (·.type) = some 100 := by kernel_rfl
theorem cells100 : Tryd.prog.cellsOf 100 = 20 := by kernel_rfl
theorem cells81 : Tryd.prog.cellsOf 81 = 1 := by kernel_rfl
theorem own : ownKnob Tryd.prog.godebug = none := by kernel_rfl
theorem laidOut : laidOutB Tryd.prog = true := by kernel_rfl
theorem laid_get {P : Program} {W : World} : ∀ {l : List (String × DataW Unit)} {ps : List MemPlace}, DataW.LaidVars P W l ps → ∀ {n : String} {d : DataW Unit}, (n, d) ∈ l →
    ∃ g t cs fuel p, P.globalNamed n = some g ∧ (P.globals[g]?).map (·.type) = some t ∧ W.var? P n = some cs ∧ DataW.trod (fun _ => ()) P W 0 (fun _ => true) false fuel t cs.toList = some (d, p)
  | [], _, _, n, d, h => by cases h
  | (m, e) :: l, ps, hl, n, d, h => by
    obtain ⟨g, t, cs, fuel, p, q, h1, h2, h3, h4, h5, _⟩ := hl
    rcases List.mem_cons.1 h with h | h
    · injection h with ha hb
      subst ha; subst hb
      exact ⟨g, t, cs, fuel, p, h1, h2, h3, h4⟩
    · exact laid_get h5 h
theorem tabIs_of_mem {P : Program} {W : World} {name : String} {k : IntKind} {zs : List Int} {l : List (String × DataW Unit)} {g : Nat} {t e : TypeId} {n : Nat}
    (hg : P.globalNamed name = some g) (hty : (P.globals[g]?).map (·.type) = some t) (ht : P.underlying t = some (.array n e)) (he : P.underlying e = some (.int k)) (hce : P.cellsOf e = 1) (hct : P.cellsOf t = n)
    (h : laidMet P l W) (hm : (name, Lib.tabData k zs) ∈ l) : Lib.TabIs P W name k zs := by
  obtain ⟨ps, hl, _⟩ := h
  obtain ⟨g', t', cs, fuel, p, hg', ht', hvar, hd⟩ := laid_get hl hm
  obtain rfl := Option.some.inj (hg.symm.trans hg')
  obtain rfl := Option.some.inj (hty.symm.trans ht')
  unfold Lib.TabIs
  rw [hvar, ← Lib.cells_of_tab ht he hce hct hd]
theorem table {W : World} {l : List (String × DataW Unit)} (h : laidMet Tryd.prog l W) (hm : ("internal/strconv.uint64pow10", Lib.tabData .u64 powInts) ∈ l) : Lib.TabIs Tryd.prog W "internal/strconv.uint64pow10" .u64 powInts :=
  tabIs_of_mem gPow gPowType Tryd.underlying100 Tryd.underlying81 cells81 cells100 h hm
def ppl : Pl := ⟨4, 0, 20⟩
theorem pow_rel {W : World} (h : Lib.TabIs Tryd.prog W "internal/strconv.uint64pow10" .u64 powInts) : ∃ ty fr, W.heap[4]? = some (.cells (powInts.map fun z => Value.int .u64 z).toArray ty fr) := by
  unfold Lib.TabIs World.var? at h
  rw [gPow] at h
  simp only [Option.bind_some] at h
  split at h
  · rename_i cs ty fr hc
    injection h with h
    subst h
    exact ⟨ty, fr, hc⟩
  · cases h
theorem pow_brel {W : World} (h : Lib.TabIs Tryd.prog W "internal/strconv.uint64pow10" .u64 powInts) (ρ : Mp) : BRel ρ ppl W (.row powRow .ro) := by
  obtain ⟨ty, fr, hc⟩ := pow_rel h
  refine ⟨_, ty, fr, hc, rfl, by simp [ppl, powRow], fun j x hx => ?_, fun h => (by cases h), fun j hj v hv => ?_⟩
  · rw [powRow, List.getElem?_map] at hx
    obtain ⟨n, hn, rfl⟩ := Option.map_eq_some_iff.1 hx
    exact ⟨.int .u64 n, by simp [ppl, hn], by simp [VRel]⟩
  · simp only [ppl, Nat.zero_add] at hv
    rw [List.getElem?_toArray, List.getElem?_map] at hv
    obtain ⟨n, hn, rfl⟩ := Option.map_eq_some_iff.1 hv
    rfl
theorem pow_nil {W : World} (h : Lib.TabIs Tryd.prog W "internal/strconv.uint64pow10" .u64 powInts) (ρ : Mp) : BRel ρ ppl W (.row [] .ro) := by
  obtain ⟨ty, fr, hc⟩ := pow_rel h
  exact ⟨_, ty, fr, hc, rfl, by simp [ppl], fun j x hx => (by simp at hx), fun h => (by cases h), fun j hj => (by simp at hj)⟩
theorem open_str {H : Type} {enc : TypeId × Value → H} {P : Program} {W : World} {base : Nat} {sp : Nat → Bool} {hd : Bool} {r : Reach} {b0 : Nat} {t : TypeId} {v : Value} {d : DataW H} {ps : List MemPlace}
    (ht : P.underlying t = some .string) (hval : Value.okWide P W r b0 t v) (h : DataW.Trod enc P W base sp hd t v d ps) : ∃ s : ByteArray, v = .string s ∧ d = .lit (.string s.data.toList) ∧ ps = [] ∧ s.size ≤ maxLen := by
  obtain ⟨s, rfl⟩ := okWide_string ht hval
  obtain ⟨fuel, hf⟩ := h
  obtain ⟨s', h1, hx, hw⟩ := DataW.trod_string ht hf
  simp [Value.cells] at h1
  subst h1
  simp only [Prod.mk.injEq] at hx
  exact ⟨s, rfl, hx.1, hx.2, hw⟩
end Go.Abs.TB
