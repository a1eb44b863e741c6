/-
Contracts: a line's text.
A line's text, for a run in the kernel; copyCheck.
-/
import Derived.Test.YtnoplfndpemmpaaGreatDoorMConY
import Derived.Test.YtnoplfndpemmpaaGreatDoorRun6
import Derived.Test.YtnoplfndpemmpaaGreatDoorMConZ
namespace Go.Abs.TE
open Go Go.Abs Go.Proofs
noncomputable def w_grid_Grid_there (g : Pt) (x y : Int) (σ : Heap) : Option (Bool × Heap) :=
  wOf (fun t : (Nat × Nat) × Int × Int => g = some t.1 ∧ int? (σ.cell? t.1.1 t.1.2) .i64 = some t.2.1 ∧ int? (σ.cell? t.1.1 (t.1.2 + 1)) .i64 = some t.2.2) fun t => (decide (0 ≤ x) && (decide (0 ≤ y) && (decide (x < t.2.1) && decide (y < t.2.2))), σ)
theorem w_there_eq {p : Nat × Nat} {x y w h : Int} {σ : Heap} (h1 : int? (σ.cell? p.1 p.2) .i64 = some w) (h2 : int? (σ.cell? p.1 (p.2 + 1)) .i64 = some h) : w_grid_Grid_there (some p) x y σ = some (decide (0 ≤ x) && (decide (0 ≤ y) && (decide (x < w) && decide (y < h))), σ) :=
  wOf_eq (P := fun t : (Nat × Nat) × Int × Int => some p = some t.1 ∧ int? (σ.cell? t.1.1 t.1.2) .i64 = some t.2.1 ∧ int? (σ.cell? t.1.1 (t.1.2 + 1)) .i64 = some t.2.2) (f := fun t => (decide (0 ≤ x) && (decide (0 ≤ y) && (decide (x < t.2.1) && decide (y < t.2.2))), σ)) (x := (p, w, h)) ⟨rfl, h1, h2⟩ fun t ht => by
    obtain ⟨p', w', h'⟩ := t
    obtain ⟨e1, e2, e3⟩ := ht
    injection e1 with e1
    simp only at e1
    subst e1
    simp only at e2 e3
    rw [h1] at e2
    rw [h2] at e3
    injection e2 with e2
    injection e3 with e3
    rw [← e2, ← e3]
theorem ok_grid_Grid_there : Ok_grid_Grid_there w_grid_Grid_there := fun g x y σ v σ' h => by
  obtain ⟨⟨p, w, h'⟩, ⟨rfl, h1, h2⟩, e⟩ := wOf_some h
  injection e with e1 e2
  subst e1; subst e2
  simp only at h1 h2
  refine call_ok ok known0_ok (L := 0) (n := 2) ((grid_Grid_there_eq 0 (some p) x y σ _).trans ?_)
  simp only [Option.bind_some, h1, h2, ge_iff_le]
  cases decide (0 ≤ x) <;> cases decide (0 ≤ y) <;> cases decide (x < w) <;> rfl
/-! ### Text -/
/-- The runes of cells, and how many till the last that is no blank. -/
def textGo : List api_Cell → List Int → Nat → List Int × Nat
  | [], ys, n => (ys, n)
  | c :: r, ys, n => bif c.Rune == 0 then textGo r ys n else bif c.Rune != 32 then textGo r (ys ++ [c.Rune]) (ys ++ [c.Rune]).length else textGo r (ys ++ [c.Rune]) n
theorem textGo_le : ∀ (cs : List api_Cell) (ys : List Int) (n : Nat), n ≤ ys.length → (textGo cs ys n).2 ≤ (textGo cs ys n).1.length
  | [], ys, n, h => h
  | c :: r, ys, n, h => by
    unfold textGo
    cases c.Rune == 0 with
    | true => exact textGo_le r ys n h
    | false =>
      cases c.Rune != 32 with
      | true => exact textGo_le r _ _ (Nat.le_refl _)
      | false => exact textGo_le r _ _ (by simp; omega)
def textB (cs : List api_Cell) : ByteArray := encodeAll ((textGo cs [] 0).1.take (textGo cs [] 0).2)
theorem cell_cells {s : Sl} {σ : Heap} {l : List api_Cell} (h : s.Is eCell σ l) {i : Nat} {x : api_Cell} (hi : l[i]? = some x) : ∃ b, s.b = some b ∧ σ.cell? b (s.o + i * 6) = some (.int .i32 x.Rune) ∧ σ.cell? b (s.o + i * 6 + 1) = some (.bool x.Style.Bold) ∧
    σ.cell? b (s.o + i * 6 + 2) = some (.bool x.Style.Under) ∧ σ.cell? b (s.o + i * 6 + 3) = some (.bool x.Style.Turned) ∧ σ.cell? b (s.o + i * 6 + 4) = some (.int .i64 x.Style.Fore) ∧ σ.cell? b (s.o + i * 6 + 5) = some (.int .i64 x.Style.Back) := by
  obtain ⟨b, hb, hc⟩ := h.cell hi
  exact ⟨b, hb, hc 0 (by decide), hc 1 (by decide), hc 2 (by decide), hc 3 (by decide), hc 4 (by decide), hc 5 (by decide)⟩
noncomputable def c_grid_Grid_Text : C_grid_Grid_Text := ⟨w_grid_Grid_there⟩
theorem Text_loop {R : Type} {L : Nat} {K : AVal → Heap → Option R} {σ0 : Heap} {l : Option Nat × Nat × Nat} {cs : List api_Cell} (hl : (⟨l.1, l.2.1, l.2.2⟩ : Sl).Is eCell σ0 cs) (hs : cs.length ≤ 1000000) :
    ∀ (d i m n : Nat) (out : Sl) (σ : Heap) (ys : List Int), i + d = cs.length → d < m → Mine Go.Abs.eI32 σ0 out σ ys → ys.length + d ≤ 1000000 → n ≤ ys.length →
      ∃ σ', σ0 <+: σ' ∧ grid_Grid_Text_L6 c_grid_Grid_Text L m out (n : Int) l (i : Int) σ K = K (.str (encodeAll ((textGo (cs.drop i) ys n).1.take (textGo (cs.drop i) ys n).2))) σ'
  | d, i, 0, _, _, _, _, _, h, _, _, _ => by omega
  | 0, i, m + 1, n, out, σ, ys, h, _, hM, hy, hn => by
    have hln : l.2.2 = cs.length := hl.n
    refine ⟨σ, hM.pre, ?_⟩
    have hI := hM.own.is (by omega)
    have hr := hI.readn hn
    rw [grid_Grid_Text_L6_eq, hln, lt_false (by omega), cond_false, hI.n, dec0, le_true hn, Bool.and_self, cond_true, Int.toNat_natCast]
    have hr' : Heap.read σ out.b out.o n 1 = some (Go.Abs.eI32.all (ys.take n)) := hr
    rw [hr', Option.bind_some, runes_all, Option.bind_some, List.drop_eq_nil_of_le (by omega)]
    rfl
  | d + 1, i, m + 1, n, out, σ, ys, h, hm, hM, hy, hn => by
    have hi : i < cs.length := by omega
    have hln : l.2.2 = cs.length := hl.n
    obtain ⟨b, hb, c0, c1, c2, c3, c4, c5⟩ := cell_cells (hl.pre hM.pre) (i := i) (x := cs[i]) (List.getElem?_eq_getElem hi)
    simp only at hb c0 c1 c2 c3 c4 c5
    rw [List.drop_eq_getElem_cons hi, grid_Grid_Text_L6_eq]
    simp only [hln, lt_true hi, cond_true, dec0, Bool.and_self, hb, Option.bind_some, Int.toNat_natCast, c0, c1, c2, c3, c4, c5, int?, bool?, if_true, wrap_i64_succ i (by omega : i < 9223372036854775807)]
    generalize cs[i] = c
    unfold textGo
    cases h0 : c.Rune == 0 with
    | true =>
      simp only [cond_true]
      exact Text_loop hl hs d (i + 1) m n out σ ys (by omega) (by omega) hM (by omega) hn
    | false =>
      obtain ⟨q, σ1, a1, a2⟩ := hM.append (zs := [c.Rune]) (bytes := 4) (vs := [.int .i32 c.Rune]) (k := 1) rfl rfl (by simp; omega) (by simp; omega)
      have a1' : σ.append out.b out.o out.n 1 4 [.int .i32 c.Rune] 1 = some (q, σ1) := a1
      have hq : q.2.2 = (ys ++ [c.Rune]).length := a2.own.len
      simp only [cond_false, a1', Option.bind_some]
      cases h1 : c.Rune != 32 with
      | true =>
        simp only [cond_true]
        rw [hq]
        have := Text_loop (K := K) (L := L) hl hs d (i + 1) m (ys ++ [c.Rune]).length ⟨q.1, q.2.1, q.2.2⟩ σ1 (ys ++ [c.Rune]) (by omega) (by omega) a2 (by simp; omega) (Nat.le_refl _)
        rw [hq] at this
        exact this
      | false =>
        simp only [cond_false]
        exact Text_loop hl hs d (i + 1) m n ⟨q.1, q.2.1, q.2.2⟩ σ1 (ys ++ [c.Rune]) (by omega) (by omega) a2 (by simp; omega) (by simp; omega)
/-- A line of a grid, and its cells: what Text reads. -/
structure TextPre (σ : Heap) (p : Nat × Nat) (y : Int) (w h : Int) (ls ln : Option Nat × Nat × Nat) (cs : List api_Cell) : Prop where
  hw : int? (σ.cell? p.1 p.2) .i64 = some w
  hh : int? (σ.cell? p.1 (p.2 + 1)) .i64 = some h
  hls : slice? (σ.cell? p.1 (p.2 + 2)) 1 = some ls
  hly : y < (ls.2.2 : Int)
  hln : ∃ b, ls.1 = some b ∧ slice? (σ.cell? b (ls.2.1 + y.toNat * 1)) 6 = some ln
  hcs : (⟨ln.1, ln.2.1, ln.2.2⟩ : Sl).Is eCell σ cs
  hsm : cs.length ≤ 1000000
/-- Text, where it can be told: the memory is as it was. -/
theorem text_grid {σ : Heap} {p : Nat × Nat} {y w h : Int} {ls ln : Option Nat × Nat × Nat} {cs : List api_Cell} (hp : TextPre σ p y w h ls ln cs) (h0 : 0 < w) (h1 : 0 ≤ y) (h2 : y < h) :
    CallOK Tryz.prog T 42 [tPtr.av (some p), (tInt .i64).av y] σ (tStr.av (textB cs)) σ := by
  obtain ⟨b, hb, hln⟩ := hp.hln
  obtain ⟨σ', k1, k2⟩ := Text_loop (R := AVal × Heap) (L := cs.length + 1) (K := fun v σ => some (v, σ)) hp.hcs hp.hsm cs.length 0 (cs.length + 1) 0 ⟨none, 0, 0⟩ σ [] (by omega) (by omega) (Mine.start σ) (by simpa using hp.hsm) (by simp)
  have hth := w_there_eq (x := 0) (y := y) hp.hw hp.hh
  have p1 : c_grid_Grid_Text.grid_Grid_there = w_grid_Grid_there := rfl
  refine call_gc0 (call_ok ok (K_grid_Grid_Text c_grid_Grid_Text ok_grid_Grid_there) (L := cs.length + 1) (n := 2) (σ' := σ') ((grid_Grid_Text_eq c_grid_Grid_Text (cs.length + 1) (some p) y σ _).trans ?_)) (fun b hb => get_pre k1 hb) trivial
  rw [p1, hth, Option.bind_some]
  simp only [decide_eq_true h0, decide_eq_true h1, decide_eq_true h2, decide_true, Int.le_refl, Bool.and_self, Bool.not_true, cond_false, Option.bind_some, hp.hls, decide_eq_true hp.hly, cond_true, hb, hln]
  exact k2
end Go.Abs.TE
namespace Go.Abs.TE
open Go Go.Abs Go.Proofs
def deCell : List AVal → Option (List api_Cell)
  | [] => some []
  | .int .i32 r :: .bool b :: .bool u :: .bool t :: .int .i64 f :: .int .i64 k :: rest => match deCell rest with
    | some q => some (⟨r, ⟨b, u, t, f, k⟩⟩ :: q)
    | none => none
  | _ => none
theorem deCell_all : ∀ {cs : List AVal} {ys : List api_Cell}, deCell cs = some ys → cs = eCell.all ys
  | cs, ys, h => by
    unfold deCell at h
    split at h
    · injection h with h; subst h; rfl
    · split at h
      · rename_i q hq
        injection h with h
        subst h
        rw [El.all_cons, ← deCell_all hq]
        rfl
      · cases h
    · cases h
def cText (g : Pt) (y : Int) (σ : Heap) : Option (ByteArray × Heap) := match g with
  | some p => match int? (σ.cell? p.1 p.2) .i64, int? (σ.cell? p.1 (p.2 + 1)) .i64, slice? (σ.cell? p.1 (p.2 + 2)) 1 with
    | some w, some h, some ls => match decide (0 < w) && decide (0 ≤ y) && decide (y < h) && decide (y < (ls.2.2 : Int)) with
      | true => match ls.1 with
        | some b => match slice? (σ.cell? b (ls.2.1 + y.toNat * 1)) 6 with
          | some ln => match winB 6 ⟨ln.1, ln.2.1, ln.2.2⟩ σ with
            | some cs => match deCell cs with
              | some xs => some (textB xs, σ)
              | none => none
            | none => none
          | none => none
        | none => none
      | false => none
    | _, _, _ => none
  | none => none
theorem ok_cText : Ok_grid_Grid_Text cText := fun g y σ v σ' h => by
  unfold cText at h
  split at h
  · rename_i p
    split at h
    · rename_i w h' ls hw hh hls
      split at h
      · rename_i hc
        simp only [Bool.and_eq_true, decide_eq_true_eq] at hc
        obtain ⟨⟨⟨k1, k2⟩, k3⟩, k4⟩ := hc
        split at h
        · rename_i b hb
          split at h
          · rename_i ln hln
            split at h
            · rename_i cs hcs
              split at h
              · rename_i xs hxs
                injection h with h
                injection h with e1 e2
                subst e1; subst e2
                obtain ⟨hI, hs⟩ := winB_is (E := eCell) (xs := xs) (by decide) (by rw [← deCell_all hxs]; exact hcs)
                exact text_grid ⟨hw, hh, hls, k4, ⟨b, hb, hln⟩, hI, hs⟩ k1 k2 k3
              · cases h
            · cases h
          · cases h
        · cases h
      · cases h
    · cases h
  · cases h
end Go.Abs.TE
