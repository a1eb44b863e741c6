/-
GridWholes answers true.
-/
import Derived.Test.YtcfohnfnajfahaaDoorMConH
import Derived.Test.YtcfohnfnajfahaaDoorEqA5
namespace Go.Abs.TA
open Go Go.Abs Go.Proofs

theorem sl_cell {s : Sl} {σ : Heap} {els : List Sl} (h : s.Is eSl σ els) {i : Nat} {f : Sl} (hi : els[i]? = some f) : ∃ b, s.b = some b ∧ slice? (σ.cell? b (s.o + i * 1)) 6 = some (f.b, f.o, f.n) := by
  obtain ⟨b, hb, hc⟩ := h.cell hi
  have hc0 : σ.cell? b (s.o + i * 1) = some (.slice f.b f.o f.n 6) := hc 0 (by decide)
  refine ⟨b, hb, ?_⟩
  rw [hc0]
  unfold slice?
  cases f with
  | mk eb eo en => cases eb <;> rfl
noncomputable def c_GridWholes : C_law09_GridWholes := { law09_fit := w_law09_fit, law09_Fill := w_law09_Fill, law09_do := w_law09_do, cell_Whole := w_cell_Whole, law09_whole := w_law09_whole }
theorem GW_L10 {R : Type} {L fu0 : Nat} {p : Nat} {σ : Heap} {d : GD} {v deeds : Sl} {x5 : Int} {oels : List Sl} {ols : List (List api_Cell)} {K : AVal → Heap → Option R} (g : GridR σ p d) (hw : WideOK σ) (hG : Good d.ls) (hO : Good ols)
    (hv : v.Is eSl σ oels) (hl : oels.length = ols.length) (hf : ∀ (i : Nat) (f : Sl) (l : List api_Cell), oels[i]? = some f → ols[i]? = some l → f.Is eCell σ l) :
    ∀ (k i m : Nat), i + k = ols.length → k < m → law09_GridWholes_L10 c_GridWholes L fu0 m (some (p, 0)) deeds x5 v (v.n : Int) (i : Int) σ K = law09_GridWholes_L7 c_GridWholes L fu0 (some (p, 0)) deeds (IntKind.i64.wrap (x5 + 1)) σ K
  | k, i, 0, _, h => by omega
  | 0, i, m + 1, h, _ => by
    have p1 : c_GridWholes.law09_whole = w_law09_whole := rfl
    rw [law09_GridWholes_L10_eq, hv.n, lt_false (by omega), cond_false, p1, w_law09_whole_eq g hw, Option.bind_some, good_all hG]
    dsimp only
    rw [Bool.not_true, cond_false]
  | k + 1, i, m + 1, h, hm => by
    have hi : i < ols.length := by omega
    have hvs := hv.small
    have p1 : c_GridWholes.cell_Whole = w_cell_Whole := rfl
    have h1 := List.getElem?_eq_getElem (show i < oels.length by omega)
    have h2 := List.getElem?_eq_getElem hi
    obtain ⟨b, hb, hc⟩ := sl_cell hv h1
    have ih := GW_L10 (L := L) (fu0 := fu0) (deeds := deeds) (x5 := x5) (K := K) g hw hG hO hv hl hf k (i + 1) m (by omega) (by omega)
    rw [hv.n] at ih
    rw [law09_GridWholes_L10_eq, hv.n, lt_true (show i < oels.length by omega), dec0, Bool.and_self, cond_true, cond_true, hb, Option.bind_some, Int.toNat_natCast, hc, Option.bind_some, p1, w_cell_Whole_eq (hf i _ _ h1 h2) hw, Option.bind_some, (hO _ (List.getElem_mem hi)).2]
    dsimp only
    rw [Bool.not_true, cond_false, wrap_i64_succ i (by omega)]
    exact ih
theorem GW_L7 {L : Nat} {p : Nat} {deeds : Sl} {ds : List law09_Deed} (hL : 100 ≤ L) (hds : ds.length ≤ 60) :
    ∀ (k i m : Nat) (σ : Heap) (d : GD), i + k = ds.length → k < m → Grid σ p d → WideOK σ → Good d.ls → deeds.Is eDeed σ ds → (∀ c, deeds.b = some c → some c ∉ d.foot p) →
      ∃ σ1, law09_GridWholes_L7 (R := AVal × Heap) c_GridWholes L m (some (p, 0)) deeds (i : Int) σ (fun v σ => some (v, σ)) = some (.bool true, σ1)
  | k, i, 0, _, _, _, h, _, _, _, _, _ => by omega
  | 0, i, m + 1, σ, d, h, _, g, hw, hG, hd, _ => by
    have p1 : c_GridWholes.law09_whole = w_law09_whole := rfl
    rw [law09_GridWholes_L7_eq, hd.n, lt_false (by omega), cond_false, p1, w_law09_whole_eq g.r hw, Option.bind_some, good_all hG]
    exact ⟨_, rfl⟩
  | k + 1, i, m + 1, σ, d, h, hm, g, hw, hG, hd, ha => by
    have hi : i < ds.length := by omega
    obtain ⟨b, hb, f0, f1, f2, f3, f4, f5, f6, f7, f8, f9⟩ := deed_at hd (List.getElem?_eq_getElem hi)
    have p1 : c_GridWholes.law09_do = w_law09_do := rfl
    obtain ⟨v, σ', e1, d', g', t', e2, e3, oels, o1, o2, o3, o4⟩ := w_law09_do_ex g hw ds[i]
    have hGd := good_do (w := d.w) (dd := ds[i]) hG g.w1
    have hw' := t'.wide g.toGridP hw
    have hh2 := g.h2
    have holen : (doO d.w d.ls ds[i]).length ≤ 60 := by
      have hup : ∀ (n : Nat) (xs : List (List api_Cell)) (t e : Nat) (b : List api_Cell), (upOut xs t e b n).length ≤ n := by
        intro n
        induction n with
        | zero => intro xs t e b; simp [upOut]
        | succ n ih =>
          intro xs t e b
          rw [upOut]
          have := ih (upOne xs t e b) t e b
          simp only [List.length_append, List.length_take]
          omega
      unfold doO
      cases kindI ds[i] == 0
      · cases kindI ds[i] == 1
        · cases kindI ds[i] == 2
          · cases kindI ds[i] == 3
            · cases kindI ds[i] == 4
              · cases kindI ds[i] == 5
                · simp only [cond_false, List.length_take]; omega
                · simp
              · simp
            · simp
          · simp only [cond_false, cond_true]
            unfold upO
            obtain ⟨_, _, _, h3⟩ := someR_eq ds[i].A ds[i].B ds[i].C (h := d.ls.length) (by omega)
            have := hup (cntN d.ls.length ds[i].A ds[i].B ds[i].C) d.ls (topN d.ls.length ds[i].A) (topN d.ls.length ds[i].B) (List.replicate d.w (blankC (tameS ds[i].Cell.Style)))
            obtain ⟨_, _, h4, _⟩ := someR_eq ds[i].A ds[i].B ds[i].C (h := d.ls.length) (by omega)
            omega
        · simp
      · simp
    have hd' : deeds.Is eDeed σ' ds := hd.of_row fun b' cs hb' hr => by
      rw [row?_congr (t'.at_ b' (row?_lt hr) (ha b' hb'))]
      exact hr
    obtain ⟨σ1, ih⟩ := GW_L7 (L := L) hL hds k (i + 1) m σ' d' (by omega) (by omega) g' hw' (by rw [e3]; exact hGd.1) hd' (fun c hc hmm => by
      rcases t'.foot c hmm with h1 | h1
      · exact ha c hc h1
      · have := hd.lt hc; omega)
    refine ⟨σ1, ?_⟩
    have hdn : deeds.n = ds.length := hd.n
    rw [law09_GridWholes_L7_eq, lt_true (show i < deeds.n by omega), dec0, Bool.and_self]
    rw [cond_true, cond_true, hb, Option.bind_some]
    simp only [Int.toNat_natCast, f0, f1, f2, f3, f4, f5, f6, f7, f8, f9, int?, bool?, if_true, Option.bind_some, p1]
    rw [show (⟨ds[i].Kind, ds[i].A, ds[i].B, ds[i].C, ⟨ds[i].Cell.Rune, ⟨ds[i].Cell.Style.Bold, ds[i].Cell.Style.Under, ds[i].Cell.Style.Turned, ds[i].Cell.Style.Fore, ds[i].Cell.Style.Back⟩⟩⟩ : law09_Deed) = ds[i] from rfl, e1, Option.bind_some]
    have := GW_L10 (L := L) (fu0 := m) (deeds := deeds) (x5 := (i : Int)) (K := fun v σ => some (v, σ)) (R := AVal × Heap) g'.r hw' (by rw [e3]; exact hGd.1) hGd.2 o1 o2 (fun i f l h1 h2 => (o4 i f l h1 h2).1) (doO d.w d.ls ds[i]).length 0 L (by omega) (by omega)
    dsimp only
    refine Eq.trans this ?_
    rw [wrap_i64_succ i (by omega)]
    exact ih
theorem law_GridWholes (size : Arr_2_Int) (l deeds : Sl) {σ : Heap} {xs : List api_Cell} {ds : List law09_Deed} (hn : l.n = xs.length) (hI : xs.length ≤ 1099511627776 → l.Is eCell σ xs) (hdn : deeds.n = ds.length) (hdI : ds.length ≤ 1099511627776 → deeds.Is eDeed σ ds) (hw : WideOK σ) :
    ∃ σ1, CallOK Tryd.prog T 14 [t_Arr_2_Int.av size, (tSl eCell.z).av l, (tSl eDeed.z).av deeds] σ (tBool.av true) σ1 := by
  have p1 : c_GridWholes.law09_fit = w_law09_fit := rfl
  have p2 : c_GridWholes.law09_Fill = w_law09_Fill := rfl
  have go : ∃ σ1, callC (R := AVal × Heap) T (O_law09_GridWholes c_GridWholes) 100 2 14 [.agg [.int .i64 size.i0, .int .i64 size.i1], .slice l.b l.o l.n 6, .slice deeds.b deeds.o deeds.n 10] σ (fun v σ => some (v, σ)) = some (.bool true, σ1) := by
    rw [law09_GridWholes_eq, p1, w_law09_fit_eq hw, Option.bind_some, hn, hdn]
    dsimp only
    rw [Bool.not_true, cond_false]
    by_cases h1 : xs.length ≤ 2000
    · rw [show decide ((xs.length : Int) > 2000) = false by simp; omega, cond_false]
      by_cases h2 : ds.length ≤ 60
      · rw [show decide ((ds.length : Int) > 60) = false by simp; omega, cond_false, p2]
        obtain ⟨p, σ2, d, e1, m1, e2, e3, e4⟩ := w_law09_Fill_ex (w := size.i0) (h := size.i1) (hI (by omega)) (by omega) hw
        have hd := hdI (by omega)
        rw [e1, Option.bind_some]
        dsimp only
        exact GW_L7 (L := 100) (Nat.le_refl _) h2 ds.length 0 100 σ2 d (by omega) (by omega) m1.grid (hw.pre m1.pre) e4 (hd.pre m1.pre) (fun c hc hm => by
          have := hd.lt hc
          have := m1.new c hm
          omega)
      · rw [show decide ((ds.length : Int) > 60) = true by simp; omega, cond_true]
        exact ⟨_, rfl⟩
    · rw [show decide ((xs.length : Int) > 2000) = true by simp; omega, cond_true]
      exact ⟨_, rfl⟩
  obtain ⟨σ1, h⟩ := go
  exact ⟨σ1, call_ok ok (K_law09_GridWholes c_GridWholes ok_cell_Whole ok_law09_fit ok_law09_Fill ok_law09_whole ok_law09_do) h⟩
end Go.Abs.TA
