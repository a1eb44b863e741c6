/-
Arguments of chapter 19: three numbers; lists of bytes.
-/
import Derived.Test.YtjfdgccoblanlaaConTopC
namespace Go.Abs.TC
open Go Go.Abs Go.Proofs Go.Proofs.Ytjfdgccoblanlaa Go.ChangeShapes Go.WideShapes Go.ChangeAt Go.RowKit

def eB : El Sl := ⟨1, fun q => [.slice q.b q.o q.n 1], fun _ => rfl, fun a b h => by
  cases a; cases b
  simp at h
  obtain ⟨h1, h2, h3⟩ := h
  rw [h1, h2, h3]⟩
structure AB where
  w : Value
  pl : Pl
  xs : List UInt8
  nil : Bool
def AB.sl (r : AB) (k : Nat) : Sl := slAt r.nil k r.xs.length
def slsOf (k : Nat) : List AB → List Sl
  | [] => []
  | r :: rs => r.sl k :: slsOf (k + 1) rs
theorem slsOf_len : ∀ (rs : List AB) (k : Nat), (slsOf k rs).length = rs.length
  | [], _ => rfl
  | r :: rs, k => by simp [slsOf, slsOf_len rs]
theorem slsOf_get : ∀ (rs : List AB) (k i : Nat), (slsOf k rs)[i]? = (rs[i]?).map fun r => r.sl (k + i)
  | [], _, _ => by simp [slsOf]
  | r :: rs, k, 0 => by simp [slsOf]
  | r :: rs, k, i + 1 => by
    simp only [slsOf, List.getElem?_cons_succ, slsOf_get rs]
    rw [Nat.add_assoc, Nat.add_comm 1 i]
def blkB (k : Nat) (rs : List AB) : Heap := .row (eB.all (slsOf (k + 1) rs)) .ro :: rs.map fun r => .row (eU8.all r.xs) .ro
def plsB (pl : Pl) (rs : List AB) : List Pl := pl :: rs.map AB.pl
structure BytesArg (σ : Heap) (l : Sl) (bs : List Sl) (xss : List (List UInt8)) : Prop where
  n : l.n = bs.length
  is : bs.length ≤ 1099511627776 → l.Is eB σ bs
  ro : Ro σ l
  len : bs.length = xss.length
  each : ∀ (i : Nat) (b : Sl) (xs : List UInt8), bs[i]? = some b → xss[i]? = some xs → SlArg eU8 σ b xs
theorem bytesArg_of {σ : Heap} {k : Nat} {rs : List AB} {nil : Bool} (hn : nil = true → rs = []) (hi : ∀ r ∈ rs, r.nil = true → r.xs = []) (hat : ∀ (i : Nat) x, (blkB k rs)[i]? = some x → σ[k + i]? = some x) :
    BytesArg σ (slAt nil k rs.length) (slsOf (k + 1) rs) (rs.map AB.xs) := by
  have h0 : σ[k]? = some (.row (eB.all (slsOf (k + 1) rs)) .ro) := hat 0 _ rfl
  have S := slArg_of (E := eB) (nil := nil) (k := k) (xs := slsOf (k + 1) rs) (fun h => by rw [hn h]; rfl) h0
  rw [slsOf_len] at S
  refine ⟨by rw [slsOf_len]; rfl, S.is, S.ro, by rw [slsOf_len, List.length_map], fun i c p hc hp => ?_⟩
  rw [slsOf_get] at hc
  obtain ⟨r, hr, rfl⟩ := Option.map_eq_some_iff.1 hc
  rw [List.getElem?_map, hr] at hp
  injection hp with hp
  subst hp
  have h2 := hi r (List.mem_of_getElem? hr)
  have hk : σ[k + 1 + i]? = some (.row (eU8.all r.xs) .ro) := by
    have := hat (i + 1) (.row (eU8.all r.xs) .ro) (by simp only [blkB, List.getElem?_cons_succ, List.getElem?_map, hr, Option.map_some])
    rw [show k + 1 + i = k + (i + 1) by omega]
    exact this
  exact slArg_of (E := eU8) h2 hk
section
variable {H : Type} {enc : TypeId × Value → H} {W : World} {hd : Bool}
structure ABOk (W : World) (r : AB) (u : List Value) : Prop where
  cells : u = [r.w]
  brel : ∀ ρ, BRel ρ r.pl W (.row (eU8.all r.xs) .ro)
  nil : r.nil = true → r.xs = []
  vrel : ∀ (ρ : Mp) lm k, ρ k = some r.pl → VRel ρ lm (.slice (slAt r.nil k r.xs.length).b (slAt r.nil k r.xs.length).o (slAt r.nil k r.xs.length).n 1) r.w
set_option maxRecDepth 100000 in
theorem bytess_open {v : Value} {r0 : Reach} {b0 : Nat} (hval : Value.okWide Try.prog W r0 b0 53 v) {d : DataW H} {ps : List MemPlace} (h : DataW.Trod enc Try.prog W 0 (fun _ => true) hd 53 v d ps) {g : Pl} (hg : ∀ ρ, BRel ρ g W (.row [] .ro)) :
    ∃ (pl : Pl) (rs : List AB) (nil : Bool), (nil = true → rs = []) ∧ (∀ r ∈ rs, r.nil = true → r.xs = []) ∧ (∀ k, Chunk W k (plsB pl rs) (blkB k rs)) ∧
      ∀ (ρ : Mp) lm k, ρ k = some pl → VRel ρ lm (.slice (slAt nil k rs.length).b (slAt nil k rs.length).o (slAt nil k rs.length).n 1) v := by
  obtain ⟨fuel, hf⟩ := h
  have hcell : ∀ (y : Value), v.cells.toList = [y] → v = y := fun y hx => slice_one Try.underlying53 hval hx
  rcases slice_vals Try.underlying53 cells23 (by decide) hf hg with h1 | ⟨v', pl, us, h1, h2, h3, h4, h5⟩
  · refine ⟨g, [], true, fun _ => rfl, fun r hr => (by cases hr), fun k => ?_, fun ρ lm k _ => ?_⟩
    · have : blkB k [] = [.row [] .ro] := by simp [blkB, slsOf, El.all]
      rw [this]
      exact Chunk.one hg
    · rw [hcell _ h1]
      simp only [slAt, if_true, VRel]
      exact ⟨trivial, rfl, trivial⟩
  · obtain rfl := hcell _ h1
    obtain ⟨rs, hr1, hr2⟩ := exists_list (fun i (r : AB) => ∃ u, us[i]? = some u ∧ ABOk W r u) us.length fun i hi => by
      obtain ⟨_, n, y, hy⟩ := h3 _ (List.getElem_mem hi)
      obtain ⟨v, pl, ys, nl, e4, b1, b2, b3⟩ := vals_ints (E := eU8) (ik := .u8) (fun n => UInt8.ofNat n.toNat) u8_mk Try.underlying23 Try.underlying5 cells5 hy hg
      exact ⟨⟨v, pl, ys, nl⟩, _, List.getElem?_eq_getElem hi, e4, b1, b2, b3⟩
    refine ⟨pl, rs, false, fun h => (by cases h), fun r hr => ?_, fun k => ⟨by simp [plsB, blkB], fun ρ hρ i q hi => ?_⟩, fun ρ lm k hk => ?_⟩
    · obtain ⟨i, hi⟩ := List.mem_iff_getElem?.1 hr
      obtain ⟨u, _, ok⟩ := hr2 i r hi
      exact ok.nil
    · cases i with
      | zero =>
        simp only [plsB, List.getElem?_cons_zero] at hi
        injection hi with hi
        subst hi
        refine ⟨_, rfl, ?_, rfl⟩
        refine h4 ρ ((slsOf (k + 1) rs).map eB.en) (by rw [List.length_map, slsOf_len, hr1]) fun i r u hr hu => ?_
        rw [List.getElem?_map, slsOf_get] at hr
        obtain ⟨c, hc, rfl⟩ := Option.map_eq_some_iff.1 hr
        obtain ⟨r, hri, rfl⟩ := Option.map_eq_some_iff.1 hc
        obtain ⟨u', hu', ok⟩ := hr2 i r hri
        rw [hu] at hu'
        injection hu' with hu'
        subst hu'
        have hp := ok.vrel ρ noL (k + 1 + i) (by
          have := hρ (i + 1) r.pl (by simp only [plsB, List.getElem?_cons_succ, List.getElem?_map, hri, Option.map_some])
          rw [show k + 1 + i = k + (i + 1) by omega]
          exact this)
        rw [ok.cells]
        refine ⟨?_, ?_⟩
        · show VRels ρ noL [.slice (slAt r.nil (k + 1 + i) r.xs.length).b (slAt r.nil (k + 1 + i) r.xs.length).o (slAt r.nil (k + 1 + i) r.xs.length).n 1] _
          simp only [VRels]
          exact ⟨_, _, rfl, hp, rfl⟩
        · intro x hx
          have hx' : x ∈ [AVal.slice (slAt r.nil (k + 1 + i) r.xs.length).b (slAt r.nil (k + 1 + i) r.xs.length).o (slAt r.nil (k + 1 + i) r.xs.length).n 1] := hx
          simp only [List.mem_cons, List.not_mem_nil, or_false] at hx'
          subst hx'
          simp [AVal.isCell]
      | succ i =>
        simp only [plsB, List.getElem?_cons_succ, List.getElem?_map] at hi
        obtain ⟨r, hri, rfl⟩ := Option.map_eq_some_iff.1 hi
        obtain ⟨u', hu', ok⟩ := hr2 i r hri
        exact ⟨.row (eU8.all r.xs) .ro, by simp only [blkB, List.getElem?_cons_succ, List.getElem?_map, hri, Option.map_some], ok.brel ρ, rfl⟩
    · have := h5 ρ lm k hk
      rw [← hr1] at this
      exact this
theorem okWide_array {P : Program} {W : World} {r : Reach} {b0 n : Nat} {t e : TypeId} {v : Value} (ht : P.underlying t = some (.array n e)) (h : Value.okWide P W r b0 t v) : ∃ cs, v = .agg cs := by
  simp only [Value.okWide, ht] at h
  obtain ⟨cs, h1, _⟩ := h
  exact ⟨cs, h1⟩
theorem cells65 : Try.prog.cellsOf 65 = 3 := by kernel_rfl
set_option maxRecDepth 100000 in
/-- Three numbers that came in. -/
theorem arr3_open {v : Value} {r0 : Reach} {b0 : Nat} (hval : Value.okWide Try.prog W r0 b0 65 v) {d : DataW H} {ps : List MemPlace} (h : DataW.Trod enc Try.prog W 0 (fun _ => true) hd 65 v d ps) :
    ∃ at3 : Arr_3_Int, v = .agg #[.int .i64 at3.i0, .int .i64 at3.i1, .int .i64 at3.i2] := by
  obtain ⟨fuel, hf⟩ := h
  obtain ⟨xs, n, _, _, hl, hxl, hall⟩ := DataW.trod_array Try.underlying65 hf
  rw [cells65] at hl
  have g : ∀ i, i < 3 → ∃ m, (v.cells.toList.drop (i * 1)).take 1 = [.int .i64 m] := fun i hi => by
    have := hall i hi
    rw [cells3, List.getElem?_eq_getElem (by omega)] at this
    obtain ⟨m, e, _, _⟩ := DataW.trod_int Try.underlying3 this
    exact ⟨m, e⟩
  obtain ⟨a, ha⟩ := g 0 (by omega)
  obtain ⟨b, hb⟩ := g 1 (by omega)
  obtain ⟨c, hc⟩ := g 2 (by omega)
  have hcs : v.cells.toList = [.int .i64 a, .int .i64 b, .int .i64 c] := by
    apply List.ext_getElem?
    intro i
    match i with
    | 0 => simpa using one_at ha
    | 1 => simpa using one_at hb
    | 2 => simpa using one_at hc
    | i + 3 =>
      rw [List.getElem?_eq_none (by omega)]
      simp
  obtain ⟨cs, rfl⟩ := okWide_array Try.underlying65 hval
  refine ⟨⟨a, b, c⟩, ?_⟩
  have hcs' : cs.toList = [.int .i64 a, .int .i64 b, .int .i64 c] := hcs
  congr 1
  exact Array.toList_inj.1 hcs'
end
end Go.Abs.TC
