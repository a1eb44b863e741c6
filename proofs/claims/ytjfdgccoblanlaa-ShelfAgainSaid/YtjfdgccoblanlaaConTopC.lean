/-
A law's arguments and memory, as the machine has them (seat c).
-/
import Derived.Test.YtjfdgccoblanlaaMConJ
import Derived.Test.YtjfdgccoblanlaaMAe
import Derived.Test.YtjfdgccoblanlaaRows
import Derived.WalkKit
import Derived.ProofKit
import Derived.Deep.DeepHandedRow
namespace Go.Abs.TC
open Go Go.Abs Go.Proofs Go.Proofs.Ytjfdgccoblanlaa Go.ChangeShapes Go.WideShapes Go.ChangeAt Go.RowKit
theorem own : ownKnob Try.prog.godebug = none := by kernel_rfl
theorem laidOut : laidOutB Try.prog = true := by kernel_rfl
theorem cells5 : Try.prog.cellsOf 5 = 1 := by kernel_rfl
theorem cells3 : Try.prog.cellsOf 3 = 1 := by kernel_rfl
theorem cells9 : Try.prog.cellsOf 9 = 1 := by kernel_rfl
theorem cells23 : Try.prog.cellsOf 23 = 1 := by kernel_rfl
theorem cells29 : Try.prog.cellsOf 29 = 5 := by kernel_rfl
theorem heap0 : (match (begin Try.prog (fun _ _ => 0) default).world.heap[0]? with | some (.cells _ _ _) => true | _ => false) = true := by kernel_rfl
/-- A block that is there whatever comes in. -/
theorem world0 {W : World} (h : W.ShapedOpen Try.prog) : ∃ g : Pl, ∀ ρ, BRel ρ g W (.row [] .ro) := by
  have hs : 0 < (begin Try.prog (fun _ _ => 0) default).world.heap.size := by
    cases hh : (begin Try.prog (fun _ _ => 0) default).world.heap[0]? with
    | none => have := heap0; rw [hh] at this; cases this
    | some o => exact (Array.getElem?_eq_some_iff.1 hh).1
  obtain ⟨o, o', h1, h2, h3⟩ := h.2 0 (Nat.le_of_eq (by kernel_rfl)) hs
  have hz : Try.prog.globals.size = 0 := by kernel_rfl
  rw [hz, if_neg (by decide)] at h3
  subst h3
  have h0 := heap0
  rw [h2] at h0
  cases o with
  | cells cs ty fr => exact ⟨⟨0, 0, cs.size⟩, fun ρ => ⟨cs, ty, fr, h1, rfl, by simp, fun j x hx => (by simp at hx), fun h => (by cases h), fun j hj => (by simp at hj)⟩⟩
  | _ => cases h0

/-! ### Pieces of memory -/
def Chunk (W : World) (k : Nat) (pls : List Pl) (σ : Heap) : Prop :=
  pls.length = σ.length ∧ ∀ ρ : Mp, (∀ (i : Nat) pl, pls[i]? = some pl → ρ (k + i) = some pl) → ∀ (i : Nat) pl, pls[i]? = some pl → ∃ x, σ[i]? = some x ∧ BRel ρ pl W x ∧ x.isRW = false
section
variable {W : World} {k : Nat} {pls pls' : List Pl} {σ σ' : Heap}
theorem Chunk.nil : Chunk W k [] [] := ⟨rfl, fun _ _ i pl h => by simp at h⟩
theorem Chunk.append (h : Chunk W k pls σ) (h' : Chunk W (k + pls.length) pls' σ') : Chunk W k (pls ++ pls') (σ ++ σ') := by
  refine ⟨by rw [List.length_append, List.length_append, h.1, h'.1], fun ρ hρ i pl hi => ?_⟩
  by_cases hlt : i < pls.length
  · rw [List.getElem?_append_left hlt] at hi
    obtain ⟨x, h1, h2⟩ := h.2 ρ (fun j q hj => hρ j q (by rw [List.getElem?_append_left (List.getElem?_eq_some_iff.1 hj).1]; exact hj)) i pl hi
    exact ⟨x, by rw [List.getElem?_append_left (by rw [← h.1]; exact hlt)]; exact h1, h2⟩
  · rw [List.getElem?_append_right (by omega)] at hi
    obtain ⟨x, h1, h2⟩ := h'.2 ρ (fun j q hj => by
      rw [Nat.add_assoc]
      exact hρ (pls.length + j) q (by rw [List.getElem?_append_right (by omega), Nat.add_sub_cancel_left]; exact hj)) _ pl hi
    exact ⟨x, by rw [List.getElem?_append_right (by rw [← h.1]; omega), ← h.1]; exact h1, h2⟩
theorem Chunk.hrel (h : Chunk W 0 pls σ) : HRel (mpOf pls) σ W :=
  hrel_of pls σ (h.2 (mpOf pls) fun i pl hi => by rw [Nat.zero_add]; exact hi)
theorem Chunk.rw (h : Chunk W 0 pls σ) (b : Nat) (x : Blk) (hb : σ[b]? = some x) : x.isRW = false := by
  have hl := (List.getElem?_eq_some_iff.1 hb).1
  obtain ⟨y, h1, _, h3⟩ := h.2 (mpOf pls) (fun i pl hi => by rw [Nat.zero_add]; exact hi) b _ (List.getElem?_eq_getElem (by rw [h.1]; exact hl))
  rw [hb] at h1
  injection h1 with h1
  subst h1
  exact h3
theorem Chunk.one {pl : Pl} {cs : List AVal} (h : ∀ ρ, BRel ρ pl W (.row cs .ro)) : Chunk W k [pl] [.row cs .ro] :=
  ⟨rfl, fun ρ _ i pl' hi => by
    match i, hi with
    | 0, hi => simp at hi; subst hi; exact ⟨_, rfl, h ρ, rfl⟩
    | i + 1, hi => simp at hi⟩
end
theorem at_left {α : Type} {l l' : List α} {i : Nat} {x : α} (h : l[i]? = some x) : (l ++ l')[i]? = some x := by
  rw [List.getElem?_append_left (List.getElem?_eq_some_iff.1 h).1]; exact h
theorem Chunk.right {W : World} {pls : List Pl} {σ σ' : Heap} (h : Chunk W 0 pls σ) {i : Nat} {x : Blk} (hx : σ'[i]? = some x) : (σ ++ σ')[0 + pls.length + i]? = some x := by
  rw [Nat.zero_add, h.1, List.getElem?_append_right (by omega), Nat.add_sub_cancel_left]; exact hx
theorem pls_right {pls pls' : List Pl} {i : Nat} {x : Pl} (hx : pls'[i]? = some x) : (pls ++ pls')[0 + pls.length + i]? = some x := by
  rw [Nat.zero_add, List.getElem?_append_right (by omega), Nat.add_sub_cancel_left]; exact hx
theorem glob_grel (pls : List Pl) : GRel T (mpOf pls) := fun g hg => by cases hg

/-! ### Slices that came in -/
def slAt (nil : Bool) (k n : Nat) : Sl := ⟨if nil then none else some k, 0, n⟩
theorem slArg_of {α : Type} {E : El α} {σ : Heap} {nil : Bool} {k : Nat} {xs : List α} (hn : nil = true → xs = []) (hk : σ[k]? = some (.row (E.all xs) .ro)) : SlArg E σ (slAt nil k xs.length) xs := by
  refine ⟨rfl, fun hl => ?_, fun c hc => ?_⟩
  · cases nil with
    | true => rw [hn rfl]; exact Sl.Is.nil
    | false => exact ⟨rfl, hl, .inr ⟨k, _, rfl, row?_of hk (by simp), by simp only [slAt]; rw [List.drop_zero, List.take_of_length_le (by rw [E.all_len]; exact Nat.le_refl _)], by simp only [slAt]; rw [E.all_len]; omega⟩⟩
  · cases nil with
    | true => cases hc
    | false => injection hc with hc; subst hc; exact ⟨_, hk⟩
theorem open_str {H : Type} {enc : TypeId × Value → H} {P : Program} {W : World} {base : Nat} {sp : Nat → Bool} {hd : Bool} {r : Reach} {b0 : Nat} {t : TypeId} {v : Value} {d : DataW H} {ps : List MemPlace}
    (ht : P.underlying t = some .string) (hval : Value.okWide P W r b0 t v) (h : DataW.Trod enc P W base sp hd t v d ps) : ∃ s : ByteArray, v = .string s ∧ d = .lit (.string s.data.toList) ∧ ps = [] ∧ s.size ≤ maxLen := by
  obtain ⟨s, rfl⟩ := okWide_string ht hval
  obtain ⟨fuel, hf⟩ := h
  obtain ⟨s', h1, hx, hw⟩ := DataW.trod_string ht hf
  simp [Value.cells] at h1
  subst h1
  simp only [Prod.mk.injEq] at hx
  exact ⟨s, rfl, hx.1, hx.2, hw⟩
theorem slice_one {P : Program} {W : World} {r : Reach} {b0 : Nat} {t e : TypeId} {v y : Value} (ht : P.underlying t = some (.slice e)) (hval : Value.okWide P W r b0 t v) (h : v.cells.toList = [y]) : v = y := by
  obtain ⟨a0, len, cap, rfl⟩ := okWide_slice ht hval
  simpa [Value.cells] using h
section
variable {H : Type} {enc : TypeId × Value → H} {W : World} {hd : Bool}
/-- A slice of numbers of one kind. -/
theorem vals_ints {α : Type} {E : El α} {ik : IntKind} (mk : Int → α) (hmk : ∀ n, (Lit.int ik n).wf = true → E.en (mk n) = [.int ik n]) {t e : TypeId} (ht : Try.prog.underlying t = some (.slice e)) (he : Try.prog.underlying e = some (.int ik)) (hc : Try.prog.cellsOf e = 1)
    {fuel : Nat} {cs : List Value} {x : DataW H × List MemPlace} (h : DataW.trod enc Try.prog W 0 (fun _ => true) hd fuel t cs = some x) {g : Pl} (hg : ∀ ρ, BRel ρ g W (.row [] .ro)) :
    ∃ (v : Value) (pl : Pl) (xs : List α) (nil : Bool), cs = [v] ∧ (∀ ρ, BRel ρ pl W (.row (E.all xs) .ro)) ∧ (nil = true → xs = []) ∧ ∀ (ρ : Mp) lm k, ρ k = some pl → VRel ρ lm (.slice (slAt nil k xs.length).b (slAt nil k xs.length).o (slAt nil k xs.length).n 1) v := by
  rcases slice_vals ht hc (by decide) h hg with h1 | ⟨v, pl, us, h1, h2, h3, h4, h5⟩
  · refine ⟨_, g, [], true, h1, by rw [E.all_nil]; exact hg, fun _ => rfl, fun ρ lm k _ => ?_⟩
    simp only [slAt, if_true, VRel]
    exact ⟨trivial, rfl, trivial⟩
  · obtain ⟨xs, hx1, hx2⟩ := exists_list (fun i (y : α) => ∃ n, us[i]? = some [.int ik n] ∧ (Lit.int ik n).wf = true ∧ y = mk n) us.length fun i hi => by
      obtain ⟨_, n, y, hy⟩ := h3 _ (List.getElem_mem hi)
      obtain ⟨m, e1, _, e2⟩ := DataW.trod_int he hy
      exact ⟨_, m, by rw [List.getElem?_eq_getElem hi, e1], e2, rfl⟩
    refine ⟨v, pl, xs, false, h1, fun ρ => ?_, fun h => (by cases h), fun ρ lm k hk => ?_⟩
    · have := h4 ρ (xs.map E.en) (by rw [List.length_map, hx1]) fun i r u hr hu => by
        rw [List.getElem?_map] at hr
        obtain ⟨y, hy, rfl⟩ := Option.map_eq_some_iff.1 hr
        obtain ⟨n, e1, e2, rfl⟩ := hx2 i y hy
        rw [hu] at e1
        injection e1 with e1
        subst e1
        rw [hmk n e2]
        exact ⟨by simp [VRels, VRel], by simp [AVal.isCell]⟩
      exact this
    · have := h5 ρ lm k hk
      rw [← hx1] at this
      exact this
end

/-! ### Calls that came in -/
structure AR where
  k : Int
  n : Int
  a : ByteArray
  b : ByteArray
  w : Value
  pl : Pl
  xs : List UInt8
  nil : Bool
def AR.call (r : AR) (k : Nat) : law04_Call := ⟨r.k, r.n, r.a, r.b, slAt r.nil k r.xs.length⟩
def AR.pc (r : AR) : PCall := ⟨r.k, r.n, r.a, r.b, r.xs⟩
def callsOf (k : Nat) : List AR → List law04_Call
  | [] => []
  | r :: rs => r.call k :: callsOf (k + 1) rs
theorem callsOf_len : ∀ (rs : List AR) (k : Nat), (callsOf k rs).length = rs.length
  | [], _ => rfl
  | r :: rs, k => by simp [callsOf, callsOf_len rs]
theorem callsOf_get : ∀ (rs : List AR) (k i : Nat), (callsOf k rs)[i]? = (rs[i]?).map fun r => r.call (k + i)
  | [], _, _ => by simp [callsOf]
  | r :: rs, k, 0 => by simp [callsOf]
  | r :: rs, k, i + 1 => by
    simp only [callsOf, List.getElem?_cons_succ, callsOf_get rs]
    rw [Nat.add_assoc, Nat.add_comm 1 i]
def blkC (k : Nat) (rs : List AR) : Heap := .row (eCall.all (callsOf (k + 1) rs)) .ro :: rs.map fun r => .row (eU8.all r.xs) .ro
def plsC (pl : Pl) (rs : List AR) : List Pl := pl :: rs.map AR.pl
theorem u8_mk (n : Int) (h : (Lit.int .u8 n).wf = true) : eU8.en (UInt8.ofNat n.toNat) = [.int .u8 n] := by
  simp only [Lit.wf, Bool.and_eq_true, decide_eq_true_eq] at h
  have h1 : IntKind.u8.min = 0 := by decide
  have h2 : IntKind.u8.max = 255 := by decide
  have h3 := h.1
  have h4 := h.2
  rw [h1] at h3
  rw [h2] at h4
  show [AVal.int .u8 ((UInt8.ofNat n.toNat).toNat : Int)] = _
  have : (UInt8.ofNat n.toNat).toNat = n.toNat := by
    rw [UInt8.toNat_ofNat']
    exact Nat.mod_eq_of_lt (by omega)
  rw [this]
  congr 2
  omega
section
variable {H : Type} {enc : TypeId × Value → H} {W : World} {hd : Bool}
theorem i64_hi {n : Int} (h : (Lit.int .i64 n).wf = true) : n ≤ 9223372036854775807 := by
  simp only [Lit.wf, Bool.and_eq_true, decide_eq_true_eq] at h
  have h2 : IntKind.i64.max = 9223372036854775807 := by decide
  have h4 := h.2
  rw [h2] at h4
  exact h4
/-- A call's cells. -/
structure AROk (W : World) (r : AR) (u : List Value) : Prop where
  cells : u = [.int .i64 r.k, .int .i64 r.n, .string r.a, .string r.b, r.w]
  hi : r.n ≤ 9223372036854775807
  brel : ∀ ρ, BRel ρ r.pl W (.row (eU8.all r.xs) .ro)
  nil : r.nil = true → r.xs = []
  vrel : ∀ (ρ : Mp) lm k, ρ k = some r.pl → VRel ρ lm (.slice (slAt r.nil k r.xs.length).b (slAt r.nil k r.xs.length).o (slAt r.nil k r.xs.length).n 1) r.w
theorem one_at {u : List Value} {i : Nat} {v : Value} (h : (u.drop i).take 1 = [v]) : u[i]? = some v := by
  have : ((u.drop i).take 1)[0]? = some v := by rw [h]; rfl
  rw [List.getElem?_take, if_pos (by omega), List.getElem?_drop] at this
  simpa using this
theorem call_open {fuel : Nat} {u : List Value} {x : DataW H × List MemPlace} (h : DataW.trod enc Try.prog W 0 (fun _ => true) hd fuel 29 u = some x) {g : Pl} (hg : ∀ ρ, BRel ρ g W (.row [] .ro)) : ∃ r, AROk W r u := by
  obtain ⟨xs, n, _, _, hl, hxl, hf⟩ := DataW.trod_struct Try.underlying29 h
  rw [cells29] at hl
  have hxl' : xs.length = 5 := hxl
  have f0 : DataW.trod enc Try.prog W 0 (fun _ => true) hd n 3 ((u.drop 0).take (Try.prog.cellsOf 3)) = xs[0]? := hf 0 _ rfl
  have f1 : DataW.trod enc Try.prog W 0 (fun _ => true) hd n 3 ((u.drop 1).take (Try.prog.cellsOf 3)) = xs[1]? := hf 1 _ rfl
  have f2 : DataW.trod enc Try.prog W 0 (fun _ => true) hd n 9 ((u.drop 2).take (Try.prog.cellsOf 9)) = xs[2]? := hf 2 _ rfl
  have f3 : DataW.trod enc Try.prog W 0 (fun _ => true) hd n 9 ((u.drop 3).take (Try.prog.cellsOf 9)) = xs[3]? := hf 3 _ rfl
  have f4 : DataW.trod enc Try.prog W 0 (fun _ => true) hd n 23 ((u.drop 4).take (Try.prog.cellsOf 23)) = xs[4]? := hf 4 _ rfl
  rw [cells3, List.getElem?_eq_getElem (by omega)] at f0 f1
  rw [cells9, List.getElem?_eq_getElem (by omega)] at f2 f3
  rw [cells23, List.getElem?_eq_getElem (by omega)] at f4
  obtain ⟨k, e0, _, _⟩ := DataW.trod_int Try.underlying3 f0
  obtain ⟨m, e1, _, w1⟩ := DataW.trod_int Try.underlying3 f1
  obtain ⟨a, e2, _, _⟩ := DataW.trod_string Try.underlying9 f2
  obtain ⟨b, e3, _, _⟩ := DataW.trod_string Try.underlying9 f3
  obtain ⟨v, pl, ys, nl, e4, b1, b2, b3⟩ := vals_ints (E := eU8) (ik := .u8) (fun n => UInt8.ofNat n.toNat) u8_mk Try.underlying23 Try.underlying5 cells5 f4 hg
  refine ⟨⟨k, m, a, b, v, pl, ys, nl⟩, ?_, i64_hi w1, b1, b2, b3⟩
  apply List.ext_getElem?
  intro i
  match i with
  | 0 => simpa using one_at e0
  | 1 => simpa using one_at e1
  | 2 => simpa using one_at e2
  | 3 => simpa using one_at e3
  | 4 => simpa using one_at e4
  | i + 5 =>
    rw [List.getElem?_eq_none (by omega)]
    simp
set_option maxRecDepth 100000 in
theorem calls_open {v : Value} {r0 : Reach} {b0 : Nat} (hval : Value.okWide Try.prog W r0 b0 22 v) {d : DataW H} {ps : List MemPlace} (h : DataW.Trod enc Try.prog W 0 (fun _ => true) hd 22 v d ps) {g : Pl} (hg : ∀ ρ, BRel ρ g W (.row [] .ro)) :
    ∃ (pl : Pl) (rs : List AR) (nil : Bool), (nil = true → rs = []) ∧ (∀ r ∈ rs, r.n ≤ 9223372036854775807 ∧ (r.nil = true → r.xs = [])) ∧ (∀ k, Chunk W k (plsC pl rs) (blkC k rs)) ∧
      ∀ (ρ : Mp) lm k, ρ k = some pl → VRel ρ lm (.slice (slAt nil k rs.length).b (slAt nil k rs.length).o (slAt nil k rs.length).n 5) v := by
  obtain ⟨fuel, hf⟩ := h
  have hcell : ∀ (y : Value), v.cells.toList = [y] → v = y := fun y hx => slice_one Try.underlying22 hval hx
  rcases slice_vals Try.underlying22 cells29 (by decide) hf hg with h1 | ⟨v', pl, us, h1, h2, h3, h4, h5⟩
  · refine ⟨g, [], true, fun _ => rfl, fun r hr => (by cases hr), fun k => ?_, fun ρ lm k _ => ?_⟩
    · have : blkC k [] = [.row [] .ro] := by simp [blkC, callsOf, El.all]
      rw [this]
      exact Chunk.one hg
    · rw [hcell _ h1]
      simp only [slAt, if_true, VRel]
      exact ⟨trivial, rfl, trivial⟩
  · obtain rfl := hcell _ h1
    obtain ⟨rs, hr1, hr2⟩ := exists_list (fun i (r : AR) => ∃ u, us[i]? = some u ∧ AROk W r u) us.length fun i hi => by
      obtain ⟨_, n, y, hy⟩ := h3 _ (List.getElem_mem hi)
      obtain ⟨r, hr⟩ := call_open hy hg
      exact ⟨r, _, List.getElem?_eq_getElem hi, hr⟩
    refine ⟨pl, rs, false, fun h => (by cases h), fun r hr => ?_, fun k => ⟨by simp [plsC, blkC], fun ρ hρ i q hi => ?_⟩, fun ρ lm k hk => ?_⟩
    · obtain ⟨i, hi⟩ := List.mem_iff_getElem?.1 hr
      obtain ⟨u, _, ok⟩ := hr2 i r hi
      exact ⟨ok.hi, ok.nil⟩
    · cases i with
      | zero =>
        simp only [plsC, List.getElem?_cons_zero] at hi
        injection hi with hi
        subst hi
        refine ⟨_, rfl, ?_, rfl⟩
        refine h4 ρ ((callsOf (k + 1) rs).map eCall.en) (by rw [List.length_map, callsOf_len, hr1]) fun i r u hr hu => ?_
        rw [List.getElem?_map, callsOf_get] at hr
        obtain ⟨c, hc, rfl⟩ := Option.map_eq_some_iff.1 hr
        obtain ⟨r, hri, rfl⟩ := Option.map_eq_some_iff.1 hc
        obtain ⟨u', hu', ok⟩ := hr2 i r hri
        rw [hu] at hu'
        injection hu' with hu'
        subst hu'
        have hp := ok.vrel ρ noL (k + 1 + i) (by
          have := hρ (i + 1) r.pl (by simp only [plsC, List.getElem?_cons_succ, List.getElem?_map, hri, Option.map_some])
          rw [show k + 1 + i = k + (i + 1) by omega]
          exact this)
        rw [ok.cells]
        refine ⟨?_, ?_⟩
        · show VRels ρ noL [.int .i64 r.k, .int .i64 r.n, .str r.a, .str r.b, .slice (slAt r.nil (k + 1 + i) r.xs.length).b (slAt r.nil (k + 1 + i) r.xs.length).o (slAt r.nil (k + 1 + i) r.xs.length).n 1] _
          simp only [VRels]
          exact ⟨_, _, rfl, by simp [VRel], _, _, rfl, by simp [VRel], _, _, rfl, by simp [VRel], _, _, rfl, by simp [VRel], _, _, rfl, hp, rfl⟩
        · intro x hx
          have hx' : x ∈ [AVal.int .i64 r.k, .int .i64 r.n, .str r.a, .str r.b, .slice (slAt r.nil (k + 1 + i) r.xs.length).b (slAt r.nil (k + 1 + i) r.xs.length).o (slAt r.nil (k + 1 + i) r.xs.length).n 1] := hx
          simp only [List.mem_cons, List.not_mem_nil, or_false] at hx'
          rcases hx' with rfl | rfl | rfl | rfl | rfl <;> simp [AVal.isCell]
      | succ i =>
        simp only [plsC, List.getElem?_cons_succ, List.getElem?_map] at hi
        obtain ⟨r, hri, rfl⟩ := Option.map_eq_some_iff.1 hi
        obtain ⟨u', hu', ok⟩ := hr2 i r hri
        exact ⟨.row (eU8.all r.xs) .ro, by simp only [blkC, List.getElem?_cons_succ, List.getElem?_map, hri, Option.map_some], ok.brel ρ, rfl⟩
    · have := h5 ρ lm k hk
      rw [← hr1] at this
      exact this
theorem callsArg_of {σ : Heap} {k : Nat} {rs : List AR} {nil : Bool} (hn : nil = true → rs = []) (hi : ∀ r ∈ rs, r.n ≤ 9223372036854775807 ∧ (r.nil = true → r.xs = [])) (hat : ∀ (i : Nat) x, (blkC k rs)[i]? = some x → σ[k + i]? = some x) :
    CallsArg σ (slAt nil k rs.length) (callsOf (k + 1) rs) (rs.map AR.pc) := by
  have h0 : σ[k]? = some (.row (eCall.all (callsOf (k + 1) rs)) .ro) := hat 0 _ rfl
  have S := slArg_of (E := eCall) (nil := nil) (k := k) (xs := callsOf (k + 1) rs) (fun h => by rw [hn h]; rfl) h0
  rw [callsOf_len] at S
  refine ⟨by rw [callsOf_len]; rfl, S.is, S.ro, by rw [callsOf_len, List.length_map], fun i c p hc hp => ?_⟩
  rw [callsOf_get] at hc
  obtain ⟨r, hr, rfl⟩ := Option.map_eq_some_iff.1 hc
  rw [List.getElem?_map, hr] at hp
  injection hp with hp
  subst hp
  obtain ⟨h1, h2⟩ := hi r (List.mem_of_getElem? hr)
  have hk : σ[k + 1 + i]? = some (.row (eU8.all r.xs) .ro) := by
    have := hat (i + 1) (.row (eU8.all r.xs) .ro) (by simp only [blkC, List.getElem?_cons_succ, List.getElem?_map, hr, Option.map_some])
    rw [show k + 1 + i = k + (i + 1) by omega]
    exact this
  have D := slArg_of (E := eU8) h2 hk
  exact ⟨rfl, rfl, rfl, rfl, D.n, D.is, D.ro, h1⟩

set_option maxRecDepth 100000 in
theorem ints_open {α : Type} {E : El α} {ik : IntKind} (mk : Int → α) (hmk : ∀ n, (Lit.int ik n).wf = true → E.en (mk n) = [.int ik n]) {t e : TypeId} (ht : Try.prog.underlying t = some (.slice e)) (he : Try.prog.underlying e = some (.int ik)) (hc : Try.prog.cellsOf e = 1)
    {v : Value} {r0 : Reach} {b0 : Nat} (hval : Value.okWide Try.prog W r0 b0 t v) {d : DataW H} {ps : List MemPlace} (h : DataW.Trod enc Try.prog W 0 (fun _ => true) hd t v d ps) {g : Pl} (hg : ∀ ρ, BRel ρ g W (.row [] .ro)) :
    ∃ (pl : Pl) (xs : List α) (nil : Bool), (nil = true → xs = []) ∧ (∀ k, Chunk W k [pl] [.row (E.all xs) .ro]) ∧ ∀ (ρ : Mp) lm k, ρ k = some pl → VRel ρ lm (.slice (slAt nil k xs.length).b (slAt nil k xs.length).o (slAt nil k xs.length).n 1) v := by
  obtain ⟨fuel, hf⟩ := h
  obtain ⟨v', pl, xs, nil, h1, h2, h3, h4⟩ := vals_ints mk hmk ht he hc hf hg
  have : v = v' := slice_one ht hval h1
  subst this
  exact ⟨pl, xs, nil, h3, fun k => Chunk.one h2, h4⟩
end
end Go.Abs.TC
