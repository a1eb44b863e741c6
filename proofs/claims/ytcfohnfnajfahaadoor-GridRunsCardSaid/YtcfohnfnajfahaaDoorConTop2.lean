/-
A law's arguments: arrays of two, of three numbers; deeds.
-/
import Derived.Test.YtcfohnfnajfahaaDoorConTop
import Derived.Test.YtcfohnfnajfahaaDoorMConH
namespace Go.Abs.TA
open Go Go.Abs Go.Proofs Go.Proofs.YtcfohnfnajfahaaDoor Go.ChangeShapes Go.WideShapes Go.ChangeAt Go.RowKit
theorem cells3 : Tryd.prog.cellsOf 3 = 1 := by kernel_rfl
section
variable {H : Type} {enc : TypeId × Value → H} {W : World} {r : Reach} {b0 base : Nat} {sp : Nat → Bool} {hd : Bool} {v : Value} {d : DataW H} {ps : List MemPlace}
theorem arr_at {n : Nat} {t : TypeId} (ht : Tryd.prog.underlying t = some (.array n 3)) (hct : Tryd.prog.cellsOf t = n) {fuel : Nat} {cs : List Value} {x : DataW H × List MemPlace} (h : DataW.trod enc Tryd.prog W base sp hd fuel t cs = some x) :
    cs.length = n ∧ ∀ i, i < n → ∃ k, cs[i]? = some (.int .i64 k) := by
  obtain ⟨xs, m, _, _, hl, hx, hf⟩ := DataW.trod_array ht h
  refine ⟨by rw [hl, hct], fun i hi => ?_⟩
  have h1 := hf i hi
  rw [cells3, List.getElem?_eq_getElem (by omega)] at h1
  obtain ⟨k, e, _, _⟩ := DataW.trod_int Tryd.underlying3 h1
  refine ⟨k, ?_⟩
  have : ((cs.drop (i * 1)).take 1)[0]? = some (.int .i64 k) := by rw [e]; rfl
  rw [List.getElem?_take, if_pos (by omega), List.getElem?_drop] at this
  simpa using this
set_option maxRecDepth 100000 in
theorem arg_arr2 {t : TypeId} (ht : Tryd.prog.underlying t = some (.array 2 3)) (hct : Tryd.prog.cellsOf t = 2) (hval : Value.okWide Tryd.prog W r b0 t v) (h : DataW.Trod enc Tryd.prog W base sp hd t v d ps) :
    ∃ a : Arr_2_Int, ∀ (ρ : Mp) (lm : Lp), VRel ρ lm (t_Arr_2_Int.av a) v := by
  obtain ⟨fuel, hf⟩ := h
  obtain ⟨hl, hg⟩ := arr_at ht hct hf
  simp only [Value.okWide, ht] at hval
  obtain ⟨cs, rfl, _⟩ := hval
  simp only [Value.cells] at hl hg
  obtain ⟨k0, h0⟩ := hg 0 (by omega)
  obtain ⟨k1, h1⟩ := hg 1 (by omega)
  refine ⟨⟨k0, k1⟩, fun ρ lm => ?_⟩
  show VRel ρ lm (.agg [.int .i64 k0, .int .i64 k1]) _
  simp only [VRel]
  refine ⟨cs.toList, by simp, ?_⟩
  have e : cs.toList = [.int .i64 k0, .int .i64 k1] := by
    apply List.ext_getElem?
    intro i
    match i with
    | 0 => simpa using h0
    | 1 => simpa using h1
    | i + 2 =>
      rw [List.getElem?_eq_none (by omega)]
      simp
  rw [e]
  simp [VRels, VRel]
set_option maxRecDepth 100000 in
theorem arg_arr3 {t : TypeId} (ht : Tryd.prog.underlying t = some (.array 3 3)) (hct : Tryd.prog.cellsOf t = 3) (hval : Value.okWide Tryd.prog W r b0 t v) (h : DataW.Trod enc Tryd.prog W base sp hd t v d ps) :
    ∃ a : Arr_3_Int, ∀ (ρ : Mp) (lm : Lp), VRel ρ lm (t_Arr_3_Int.av a) v := by
  obtain ⟨fuel, hf⟩ := h
  obtain ⟨hl, hg⟩ := arr_at ht hct hf
  simp only [Value.okWide, ht] at hval
  obtain ⟨cs, rfl, _⟩ := hval
  simp only [Value.cells] at hl hg
  obtain ⟨k0, h0⟩ := hg 0 (by omega)
  obtain ⟨k1, h1⟩ := hg 1 (by omega)
  obtain ⟨k2, h2⟩ := hg 2 (by omega)
  refine ⟨⟨k0, k1, k2⟩, fun ρ lm => ?_⟩
  show VRel ρ lm (.agg [.int .i64 k0, .int .i64 k1, .int .i64 k2]) _
  simp only [VRel]
  refine ⟨cs.toList, by simp, ?_⟩
  have e : cs.toList = [.int .i64 k0, .int .i64 k1, .int .i64 k2] := by
    apply List.ext_getElem?
    intro i
    match i with
    | 0 => simpa using h0
    | 1 => simpa using h1
    | 2 => simpa using h2
    | i + 3 =>
      rw [List.getElem?_eq_none (by omega)]
      simp
  rw [e]
  simp [VRels, VRel]
end
theorem conv_deed (r : List AVal) (h : ShOKs [.int .i64, .int .i64, .int .i64, .int .i64, .int .i32, .bool, .bool, .bool, .int .i64, .int .i64] r) : ∃ a, eDeed.en a = r ∧ True := by
  obtain ⟨_, _, rfl, ⟨k, rfl, _⟩, _, _, rfl, ⟨a, rfl, _⟩, _, _, rfl, ⟨b, rfl, _⟩, _, _, rfl, ⟨c, rfl, _⟩, _, _, rfl, ⟨n, rfl, _⟩, _, _, rfl, ⟨b0, rfl⟩, _, _, rfl, ⟨b1, rfl⟩, _, _, rfl, ⟨b2, rfl⟩, _, _, rfl, ⟨f, rfl, _⟩, _, _, rfl, ⟨g, rfl, _⟩, rfl⟩ := h
  exact ⟨⟨k, a, b, c, ⟨n, ⟨b0, b1, b2, f, g⟩⟩⟩, rfl, trivial⟩
theorem deed_shape {xs : List AVal} (h : ShOKs [.int .i64, .int .i64, .int .i64, .int .i64, .int .i32, .bool, .bool, .bool, .int .i64, .int .i64] xs) : ∃ s : law09_Deed, .agg xs = t_law09_Deed.av s := by
  obtain ⟨a, ha, _⟩ := conv_deed xs h
  exact ⟨a, by rw [← ha]; rfl⟩
end Go.Abs.TA
