/-
GridRuns answers true.
-/
import Derived.Test.YtcfohnfnajfahaaDoorMConM
import Derived.Test.YtcfohnfnajfahaaDoorEqA6
import Derived.Test.YtcfohnfnajfahaaDoorMConH
namespace Go.Abs.TA
open Go Go.Abs Go.Proofs

theorem Grid.wideL {σ : Heap} {p : Nat} {d : GD} (g : Grid σ p d) : WideL d.ls d.w := ⟨g.wide, g.w1, g.w2, g.h1, g.h2⟩
theorem Outs.in_ {σ : Heap} {p : Nat} {d : GD} {v : Sl} {ls : List (List api_Cell)} (h : LsIn (fun c => some c ∉ d.foot p) σ v ls) : Outs σ p d v ls := h
noncomputable def c_GridRuns : C_law09_GridRuns := { law09_fit := w_law09_fit, law09_Fill := w_law09_Fill, law09_whole := w_law09_whole, grid_Grid_Copy := w_grid_Grid_Copy, law09_lines_do := w_law09_lines_do, law09_do := w_law09_do, law09_equal := w_law09_equal }
theorem doO_len {w : Nat} {ls : List (List api_Cell)} {dd : law09_Deed} (hw : WideL ls w) (hG : Good ls) : (doO w ls dd).length ≤ 60 := by
  rw [← (mdo_same (dd := dd) hw hG).2]
  have hh2 := hw.h2
  obtain ⟨es, h1, h2, h3⟩ := someR_eq dd.A dd.B dd.C (h := ls.length) (by omega)
  unfold mdoO outAt
  split
  · simp; omega
  · split
    · simp; omega
    · simp
theorem GR_loop {L : Nat} {p : Nat} {deeds : Sl} {ds : List law09_Deed} (hds : ds.length ≤ 60) :
    ∀ (k i fu : Nat) (σ : Heap) (d : GD) (m : Sl), i + k = ds.length → k < fu → Grid σ p d → WideOK σ → Good d.ls → LsIn (fun c => some c ∉ d.foot p) σ m d.ls → deeds.Is eDeed σ ds → (∀ c, deeds.b = some c → some c ∉ d.foot p) →
      ∃ σ1, law09_GridRuns_L10 (R := AVal × Heap) c_GridRuns L fu (some (p, 0)) m deeds (i : Int) σ (fun v σ => some (v, σ)) = some (.bool true, σ1)
  | k, i, 0, _, _, _, _, h, _, _, _, _, _, _ => by omega
  | 0, i, fu + 1, σ, d, m, h, _, g, hw, hG, hm, hd, _ => by
    rw [law09_GridRuns_L10_eq, hd.n, lt_false (by omega), cond_false]
    exact ⟨_, rfl⟩
  | k + 1, i, fu + 1, σ, d, m, h, hf, g, hw, hG, hm, hd, ha => by
    have hi : i < ds.length := by omega
    obtain ⟨b, hb, f0, f1, f2, f3, f4, f5, f6, f7, f8, f9⟩ := deed_at hd (List.getElem?_eq_getElem hi)
    have p1 : c_GridRuns.law09_lines_do = w_law09_lines_do := rfl
    have p2 : c_GridRuns.law09_do = w_law09_do := rfl
    have p3 : c_GridRuns.law09_equal = w_law09_equal := rfl
    have hdn : deeds.n = ds.length := hd.n
    have hW := g.wideL
    obtain ⟨v, σ1, a1, a2, a3, a4⟩ := w_law09_lines_do_ex (dd := ds[i]) hm hW (fun c hc hmm => by have := g.foot_lt hmm; omega)
    obtain ⟨s1, s2⟩ := mdo_same (dd := ds[i]) hW hG
    rw [s1] at a3
    rw [s2] at a4
    obtain ⟨v2, σ2, e1, d', g', t', e2, e3, o'⟩ := w_law09_do_ex (g.pre a2) (hw.pre a2) ds[i]
    have b3 := (Outs.in_ a3).turn t'
    have b4 := (Outs.in_ a4).turn t'
    have hGd := good_do (w := d.w) (dd := ds[i]) hG g.w1
    have hw' := t'.wide (g.pre a2).toGridP (hw.pre a2)
    have hol := doO_len (dd := ds[i]) hW hG
    have hd1 := hd.pre a2
    have hd' : deeds.Is eDeed σ2 ds := hd1.of_row fun b' cs hb' hr => by
      rw [row?_congr (t'.at_ b' (row?_lt hr) (ha b' hb'))]
      exact hr
    rw [← e3] at b3
    have hW' := g'.wideL
    obtain ⟨bb, x, x1, x2, x3, x4⟩ := b3.ls.first hW'
    obtain ⟨σ9, ih⟩ := GR_loop (L := L) hds k (i + 1) fu σ2 d' v.1 (by omega) (by omega) g' hw' (by rw [e3]; exact hGd.1) b3 hd' (fun c hc hmm => by
      rcases t'.foot c hmm with h1 | h1
      · exact ha c hc h1
      · have := hd1.lt hc; omega)
    refine ⟨σ9, ?_⟩
    have hvn : v.1.n = d'.ls.length := b3.ls.n
    rw [law09_GridRuns_L10_eq, lt_true (show i < deeds.n by omega), dec0, Bool.and_self]
    rw [cond_true, cond_true, hb, Option.bind_some]
    simp only [Int.toNat_natCast, f0, f1, f2, f3, f4, f5, f6, f7, f8, f9, int?, bool?, if_true, Option.bind_some, p1]
    rw [show (⟨ds[i].Kind, ds[i].A, ds[i].B, ds[i].C, ⟨ds[i].Cell.Rune, ⟨ds[i].Cell.Style.Bold, ds[i].Cell.Style.Under, ds[i].Cell.Style.Turned, ds[i].Cell.Style.Fore, ds[i].Cell.Style.Back⟩⟩⟩ : law09_Deed) = ds[i] from rfl, a1, Option.bind_some, p2]
    dsimp only
    rw [e1, Option.bind_some, p3, w_law09_equal_eq o'.ls b4.ls (by omega), Option.bind_some, decide_eq_true rfl]
    dsimp only
    rw [Bool.not_true, cond_false]
    have hc0 := g'.head.c0
    have hc1 := g'.head.c1
    have hc2 := g'.head.c2
    simp only [int?] at hc0 hc1
    simp only [Nat.zero_add] at hc1 hc2 ⊢
    rw [hc2, Option.bind_some, w_law09_equal_eq g'.r.ls b3.ls (by have := g'.h2; omega), Option.bind_some, decide_eq_true rfl]
    dsimp only
    rw [Bool.not_true, cond_false, hc0, Option.bind_some, show decide ((0 : Int) < (v.1.n : Int)) = true by simp; omega, cond_true, x1, Option.bind_some, x2, Option.bind_some, x3, show ((d'.w : Int) != (d'.w : Int)) = false by simp, cond_false, hc1, Option.bind_some, hvn,
      show ((d'.ls.length : Int) != (d'.ls.length : Int)) = false by simp, cond_false, wrap_i64_succ i (by omega)]
    exact ih
theorem law_GridRuns (size : Arr_2_Int) (l deeds : Sl) {σ : Heap} {xs : List api_Cell} {ds : List law09_Deed} (hn : l.n = xs.length) (hI : xs.length ≤ 1099511627776 → l.Is eCell σ xs) (hdn : deeds.n = ds.length) (hdI : ds.length ≤ 1099511627776 → deeds.Is eDeed σ ds) (hw : WideOK σ) :
    ∃ σ1, CallOK Tryd.prog T 15 [t_Arr_2_Int.av size, (tSl eCell.z).av l, (tSl eDeed.z).av deeds] σ (tBool.av true) σ1 := by
  have p1 : c_GridRuns.law09_fit = w_law09_fit := rfl
  have p2 : c_GridRuns.law09_Fill = w_law09_Fill := rfl
  have p3 : c_GridRuns.law09_whole = w_law09_whole := rfl
  have p4 : c_GridRuns.grid_Grid_Copy = w_grid_Grid_Copy := rfl
  have go : ∃ σ1, callC (R := AVal × Heap) T (O_law09_GridRuns c_GridRuns) 100 2 15 [.agg [.int .i64 size.i0, .int .i64 size.i1], .slice l.b l.o l.n 6, .slice deeds.b deeds.o deeds.n 10] σ (fun v σ => some (v, σ)) = some (.bool true, σ1) := by
    rw [law09_GridRuns_eq, p1, w_law09_fit_eq hw, Option.bind_some, hn, hdn]
    dsimp only
    rw [Bool.not_true, cond_false]
    by_cases h1 : xs.length ≤ 2000
    · rw [show decide ((xs.length : Int) > 2000) = false by simp; omega, cond_false]
      by_cases h2 : ds.length ≤ 60
      · rw [show decide ((ds.length : Int) > 60) = false by simp; omega, cond_false, p2]
        generalize IntKind.i64.wrap ((IntKind.i64.wrap (BitVec.ofInt IntKind.i64.bits size.i0 &&& BitVec.ofInt IntKind.i64.bits 31).toNat) + 1) = w
        generalize IntKind.i64.wrap ((IntKind.i64.wrap (BitVec.ofInt IntKind.i64.bits size.i1 &&& BitVec.ofInt IntKind.i64.bits 31).toNat) + 1) = h
        obtain ⟨p, σ2, d, e1, m1, e2, e3, e4⟩ := w_law09_Fill_ex (w := w) (h := h) (hI (by omega)) (by omega) hw
        have hd := hdI (by omega)
        have g1 := m1.grid
        have hw1 := hw.pre m1.pre
        rw [e1, Option.bind_some]
        dsimp only
        rw [p3, w_law09_whole_eq g1.r hw1, Option.bind_some, good_all e4]
        dsimp only
        rw [Bool.not_true, cond_false, p4]
        obtain ⟨pc, σ3, dc, f1, m2, f2, f3⟩ := w_grid_Grid_Copy_ex g1
        have hm : LsIn (fun c => some c ∉ d.foot p) σ3 dc.q d.ls := by
          have hr := m2.grid.r
          rw [← f3]
          refine ⟨dc.els, hr.own, hr.len, fun c hc hmm => ?_, fun i f l hf hl => ⟨hr.line i f l hf hl, fun c hc hmm => ?_⟩⟩
          · have h1 := m2.new c (by simp [GD.foot, hc])
            have h2 := g1.foot_lt hmm
            omega
          · have h1 := m2.new c (by
              simp only [GD.foot, List.mem_cons, List.mem_map]
              exact .inr (.inr ⟨f, List.mem_of_getElem? hf, hc⟩))
            have h2 := g1.foot_lt hmm
            omega
        have hc2 := m2.grid.head.c2
        rw [f1, Option.bind_some]
        dsimp only
        simp only [Nat.zero_add] at hc2
        rw [Option.bind_some, show (0 : Nat) + 2 = 2 from rfl, hc2, Option.bind_some]
        exact GR_loop (L := 100) h2 ds.length 0 100 σ3 d dc.q (by omega) (by omega) (g1.pre m2.pre) (hw1.pre m2.pre) e4 hm ((hd.pre m1.pre).pre m2.pre) (fun c hc hmm => by
          have := hd.lt hc
          have := m1.new c hmm
          omega)
      · rw [show decide ((ds.length : Int) > 60) = true by simp; omega, cond_true]
        exact ⟨_, rfl⟩
    · rw [show decide ((xs.length : Int) > 2000) = true by simp; omega, cond_true]
      exact ⟨_, rfl⟩
  obtain ⟨σ1, h⟩ := go
  exact ⟨σ1, call_ok ok (K_law09_GridRuns c_GridRuns ok_law09_fit ok_law09_Fill ok_grid_Grid_Copy ok_law09_whole ok_law09_do ok_law09_lines_do ok_law09_equal) h⟩
end Go.Abs.TA
