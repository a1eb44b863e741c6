/-
A plan that came in.
-/
import Derived.Test.YtnoplfndpemmpaaGreatDoorConTopU
namespace Go.Abs.TE
open Go Go.Abs Go.Proofs Go.Proofs.YtnoplfndpemmpaaGreatDoor Go.ChangeShapes Go.WideShapes Go.ChangeAt Go.RowKit
theorem slice_cells {P : Program} {W : World} {r : Reach} {b0 : Nat} {t e : TypeId} {v : Value} (ht : P.underlying t = some (.slice e)) (h : Value.okWide P W r b0 t v) : v.cells.toList = [v] := by
  cases v with
  | agg cs =>
    simp only [Value.okWide, ht, Cell.okWide] at h
    try simp [Cell.ok] at h
  | _ => rfl
/-- A plan that came in: its numbers, its two slices. -/
theorem plan_openP {P : Program} {n1 n2 n3 : String} {g1 g2 g3 : String} {q1 q2 q3 : String} {y1 y2 y3 : Nat}
    (u50 : P.underlying 50 = some (.struct #[{ name := n1, type := 37, offset := 0, embedded := false, tag := g1, pkgPath := q1, byteOffset := y1 }, { name := n2, type := 47, offset := 2, embedded := false, tag := g2, pkgPath := q2, byteOffset := y2 }, { name := n3, type := 48, offset := 3, embedded := false, tag := g3, pkgPath := q3, byteOffset := y3 }]))
    (u37 : P.underlying 37 = some (.array 2 3)) (u3 : P.underlying 3 = some (.int .i64)) (u47 : P.underlying 47 = some (.slice 100)) (u48 : P.underlying 48 = some (.slice 3))
    (cells50 : P.cellsOf 50 = 4) (cells37 : P.cellsOf 37 = 2) (cells47 : P.cellsOf 47 = 1) (cells48 : P.cellsOf 48 = 1) (cells3 : P.cellsOf 3 = 1) (types50 : P.cellTypes P.depth 50 = some [3, 3, 47, 48])
    {H : Type} {enc : TypeId × Value → H} {W : World} {hd : Bool} {r : Reach} {b0 : Nat} {v : Value} (hval : Value.okWide P W r b0 50 v) {d : DataW H} {ps : List MemPlace} (h : DataW.Trod enc P W 0 (fun _ => true) hd 50 v d ps) :
    ∃ (k0 k1 : Int) (v2 v3 : Value) (d2 d3 : DataW H) (p2 p3 : List MemPlace), v = .agg #[.int .i64 k0, .int .i64 k1, v2, v3] ∧
      Value.okWide P W r b0 47 v2 ∧ DataW.Trod enc P W 0 (fun _ => true) hd 47 v2 d2 p2 ∧ Value.okWide P W r b0 48 v3 ∧ DataW.Trod enc P W 0 (fun _ => true) hd 48 v3 d3 p3 := by
  obtain ⟨fuel, hf⟩ := h
  obtain ⟨xs, n, _, _, hl, hxl, hall⟩ := DataW.trod_struct u50 hf
  rw [cells50] at hl
  have hsz : xs.length = 3 := hxl
  simp only [Value.okWide, u50] at hval
  obtain ⟨cs, rfl, hcs, ts, hts, _, hok⟩ := hval
  rw [types50] at hts
  injection hts with hts
  subst hts
  have hlen : cs.toList.length = 4 := hl
  have a0 : DataW.trod enc P W 0 (fun _ => true) hd n 37 ((cs.toList.drop 0).take (P.cellsOf 37)) = xs[0]? := hall 0 _ rfl
  have a1 : DataW.trod enc P W 0 (fun _ => true) hd n 47 ((cs.toList.drop 2).take (P.cellsOf 47)) = xs[1]? := hall 1 _ rfl
  have a2 : DataW.trod enc P W 0 (fun _ => true) hd n 48 ((cs.toList.drop 3).take (P.cellsOf 48)) = xs[2]? := hall 2 _ rfl
  clear hall hf hxl
  rw [cells37, List.getElem?_eq_getElem (by omega)] at a0
  rw [cells47, List.getElem?_eq_getElem (by omega)] at a1
  rw [cells48, List.getElem?_eq_getElem (by omega)] at a2
  obtain ⟨ys, m, _, _, hyl, hyx, hy⟩ := DataW.trod_array u37 a0
  have y0 := hy 0 (by omega)
  have y1 := hy 1 (by omega)
  rw [cells3, List.getElem?_eq_getElem (by omega)] at y0 y1
  obtain ⟨k0, e0, _, _⟩ := DataW.trod_int u3 y0
  obtain ⟨k1, e1, _, _⟩ := DataW.trod_int u3 y1
  have c0 := one_cell e0
  have c1 := one_cell e1
  simp only [Nat.zero_mul, Nat.one_mul, List.drop_zero, List.getElem?_take, Nat.zero_lt_succ, if_true, Nat.lt_add_one] at c0 c1
  have i2 : cs.toList[2]? = some cs.toList[2] := List.getElem?_eq_getElem (by omega)
  have i3 : cs.toList[3]? = some cs.toList[3] := List.getElem?_eq_getElem (by omega)
  generalize cs.toList[2] = v2 at i2
  generalize cs.toList[3] = v3 at i3
  obtain ⟨u2, hu2, ok2⟩ := hok 2 v2 (by rw [← Array.getElem?_toList]; exact i2)
  obtain ⟨u3, hu3, ok3⟩ := hok 3 v3 (by rw [← Array.getElem?_toList]; exact i3)
  obtain rfl : 47 = u2 := Option.some.inj hu2
  obtain rfl : 48 = u3 := Option.some.inj hu3
  have w2 : Value.okWide P W r b0 47 v2 := by simp only [Value.okWide, u47]; exact ok2
  have w3 : Value.okWide P W r b0 48 v3 := by simp only [Value.okWide, u48]; exact ok3
  rw [cell_one i2] at a1
  rw [cell_one i3] at a2
  refine ⟨k0, k1, v2, v3, _, _, _, _, ?_, w2, ⟨n, by rw [slice_cells u47 w2]; exact a1⟩, w3, ⟨n, by rw [slice_cells u48 w3]; exact a2⟩⟩
  congr 1
  refine Array.toList_inj.1 ?_
  apply List.ext_getElem?
  intro i
  match i with
  | 0 => simpa using c0
  | 1 => simpa using c1
  | 2 => simpa using i2
  | 3 => simpa using i3
  | i + 4 =>
    rw [List.getElem?_eq_none (by omega)]
    simp
set_option maxRecDepth 100000 in
theorem plan_open {H : Type} {enc : TypeId × Value → H} {W : World} {hd : Bool} {r : Reach} {b0 : Nat} {v : Value} (hval : Value.okWide Tryz.prog W r b0 50 v) {d : DataW H} {ps : List MemPlace} (h : DataW.Trod enc Tryz.prog W 0 (fun _ => true) hd 50 v d ps) :
    ∃ (k0 k1 : Int) (v2 v3 : Value) (d2 d3 : DataW H) (p2 p3 : List MemPlace), v = .agg #[.int .i64 k0, .int .i64 k1, v2, v3] ∧
      Value.okWide Tryz.prog W r b0 47 v2 ∧ DataW.Trod enc Tryz.prog W 0 (fun _ => true) hd 47 v2 d2 p2 ∧ Value.okWide Tryz.prog W r b0 48 v3 ∧ DataW.Trod enc Tryz.prog W 0 (fun _ => true) hd 48 v3 d3 p3 :=
  plan_openP (P := Tryz.prog) Tryz.underlying50 Tryz.underlying37 Tryz.underlying3 Tryz.underlying47 Tryz.underlying48 cells50 cells37 cells47 cells48 cells3 types50 hval h
theorem plan_vrel {ρ : Mp} {lm : Lp} {k0 k1 : Int} {a0 a1 : Sl} {w2 w3 : Value} (h2 : VRel ρ lm ((tSl 5).av a0) w2) (h3 : VRel ρ lm ((tSl 1).av a1) w3) : VRel ρ lm (t_law13_Plan.av ⟨⟨k0, k1⟩, a0, a1⟩) (.agg #[.int .i64 k0, .int .i64 k1, w2, w3]) := by
  show VRel ρ lm (.agg [.int .i64 k0, .int .i64 k1, .slice a0.b a0.o a0.n 5, .slice a1.b a1.o a1.n 1]) _
  have h2' : VRel ρ lm (.slice a0.b a0.o a0.n 5) w2 := h2
  have h3' : VRel ρ lm (.slice a1.b a1.o a1.n 1) w3 := h3
  generalize AVal.slice a0.b a0.o a0.n 5 = x2 at h2' ⊢
  generalize AVal.slice a1.b a1.o a1.n 1 = x3 at h3' ⊢
  simp only [VRel]
  refine ⟨[.int .i64 k0, .int .i64 k1, w2, w3], rfl, ?_⟩
  simp only [VRels, VRel]
  exact ⟨_, _, rfl, rfl, _, _, rfl, rfl, _, _, rfl, h2', _, _, rfl, h3', rfl⟩
end Go.Abs.TE
