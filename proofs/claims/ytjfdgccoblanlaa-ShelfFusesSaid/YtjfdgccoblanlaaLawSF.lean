/-
The law ShelfFuses, on the machine.
-/
import Derived.Test.YtjfdgccoblanlaaMConL
namespace Go.Abs.TC
open Go Go.Abs Go.Proofs

noncomputable def c_law19_ShelfFuses : C_law19_ShelfFuses := { file_New := w_file_New, file_Store_Crash := w_file_Store_Crash, file_Store_Fuse := w_file_Store_Fuse, file_Store_Up := w_file_Store_Up, law19_fit := w_law19_fit, shelf_Save := w_shelf_Save, law19_Get := w_law19_Get, law19_small := w_law19_small, law19_Do := w_law19_Do }
def nameB : ByteArray := ⟨#[98]⟩
theorem one_beq (q : law19_One) : ((q.Data.toList == q.Data.toList) && ((q.Sure == q.Sure) && ((q.There == q.There) && true))) = true := by simp
theorem fuses_end {L s : Nat} {at3 : Arr_3_Int} {b l : Sl} {σ0 : Heap} {cs : List law04_Call} {ps : List PCall} (hC : CallsIs σ0 l cs ps) {xs : List UInt8} (hX : b.Is eU8 σ0 xs) (hXr : Ro σ0 b) (hxl : xs.length ≤ 200)
    (m : Nat) (σ : Heap) (d : SD) (hR : Run σ0 σ d 10100) (hs : d.s = s) (hQ : d.sto.quota = 1048576) :
      ∃ σ', law19_ShelfFuses_L7 (R := AVal × Heap) c_law19_ShelfFuses L (m + 1) b (some (s, 0)) l (cs.length : Int) at3 σ (fun v σ => some (v, σ)) = some (.bool true, σ') := by
  have p1 : c_law19_ShelfFuses.file_Store_Crash = w_file_Store_Crash := rfl
  have p2 : c_law19_ShelfFuses.law19_Get = w_law19_Get := rfl
  have p3 : c_law19_ShelfFuses.file_Store_Fuse = w_file_Store_Fuse := rfl
  have p4 : c_law19_ShelfFuses.shelf_Save = w_shelf_Save := rfl
  have p5 : c_law19_ShelfFuses.file_Store_Up = w_file_Store_Up := rfl
  rw [law19_ShelfFuses_L7_eq, p1, p2, p3, p4, p5, hC.is.n, lt_false (by omega), cond_false]
  -- the first crash
  obtain ⟨σ1, d1, a1, a2, a3, a4, _⟩ := hR.crashL [at3.i2] (by simp)
  have a1' : w_file_Store_Crash (some (d.s, 0)) ⟨some σ.length, 0, 1⟩ (σ ++ [.row [.int .i64 at3.i2] .rw]) = some ((), σ1) := a1
  rw [hs] at a1' a4
  have hdn : d1.sto.down = false := by rw [a3]; rfl
  have hq1 : d1.sto.quota = 1048576 := by rw [a3]; exact hQ
  have hLa : ∀ m, Lasts d1.sto m := fun m => by rw [a3]; exact crash_to_lasts hR.sures m
  have hgf := a2.get nameF
  have hgb := a2.get nameB
  rw [getS_sto, getT_eq hdn, a4] at hgf hgb
  -- the fuse
  change ∃ σ', (alloc σ [.int .i64 at3.i2] fun b14 σ15 => (w_file_Store_Crash (some (s, 0)) ⟨(some b14), 0, 1⟩ σ15).bind fun q16 =>
    (w_law19_Get (some (s, 0)) nameF q16.2).bind fun q17 => (w_law19_Get (some (s, 0)) nameB q17.2).bind fun q18 => (w_file_Store_Fuse (some (s, 0)) (kindI at3.i0) q18.2).bind fun q19 => (w_shelf_Save (some (s, 0)) nameF b q19.2).bind fun q20 => _) = _
  obtain ⟨kk, k7, hkk⟩ := kindI_lt at3.i0
  obtain ⟨σ2, d2, b1, b2, b3, b4, _⟩ := a2.fuse (k := kindI at3.i0) (by omega)
  rw [a4] at b1 b4
  have X2 := is_keep hX hXr b2.ro
  obtain ⟨σ3, d3, c1, c2, c3, c4, _⟩ := b2.save (by omega) nameF X2 ((hXr.keep b2.ro).out b2.st) (by omega)
  rw [b4] at c1 c4
  have hg2 : ∀ m, d2.sto.get m = d1.sto.get m := fun m => by rw [b3]; rfl
  have hS := save_saved (t := d2.sto) b2.nod (by rw [b3]; exact hdn) nameF_ok nameF_ne xs
  unfold alloc
  dsimp only
  rw [a1', Option.bind_some]
  dsimp only
  rw [hgf, Option.bind_some]
  dsimp only
  rw [hgb, Option.bind_some]
  dsimp only
  rw [b1, Option.bind_some]
  dsimp only
  rw [c1, Option.bind_some]
  dsimp only
  -- the second crash
  obtain ⟨σ4, d4, e1, e2, e3, e4, _⟩ := c2.crashL [at3.i1, at3.i1, at3.i1, at3.i1] (by simp)
  have e1' : w_file_Store_Crash (some (d3.s, 0)) ⟨some σ3.length, 0, 4⟩ (σ3 ++ [.row [.int .i64 at3.i1, .int .i64 at3.i1, .int .i64 at3.i1, .int .i64 at3.i1] .rw]) = some ((), σ4) := e1
  rw [c4] at e1' e4
  have hdn4 : d4.sto.down = false := by rw [e3]; rfl
  have hgf4 := e2.get nameF
  have hgb4 := e2.getz nameB
  rw [getS_sto, getT_eq hdn4, e4] at hgf4 hgb4
  have hsame : ∀ m, d3.sto.get m = d1.sto.get m → d4.sto.get m = d1.sto.get m := fun m h => by
    rw [e3, crash_lasts (by unfold Lasts; rw [h]; exact hLa m), h]
  have hX4 := (is_keep hX hXr e2.ro).read
  have hz : eU8.z = 1 := rfl
  rw [hz] at hX4
  cases hS with
  | full hr hd ha hroom ht ho =>
    exfalso
    have h1 := b2.size
    have h2 : d2.sto.quota = 1048576 := by rw [b3]; exact hq1
    unfold Sto.size at h1
    rw [Sto.used_eq, h2] at hroom
    omega
  | ok hr hd ha hroom hn ht ho =>
    rw [← c3] at hn ho
    have hb4 : d4.sto.get nameB = d1.sto.get nameB := hsame nameB ((ho nameB (by decide) (by decide)).trans (hg2 nameB))
    have hf4 : d4.sto.get nameF = some ⟨nameF, xs, xs.length⟩ := by rw [e3]; exact crash_all rfl hn
    rw [hf4] at hgf4
    rw [hb4] at hgb4
    rw [hr, bne_self_eq_false, cond_false, e1', Option.bind_some]
    dsimp only
    rw [show (⟨#[102]⟩ : ByteArray) = nameF from rfl, show (⟨#[98]⟩ : ByteArray) = nameB from rfl, hgf4, Option.bind_some]
    dsimp only
    rw [hgb4, Option.bind_some]
    dsimp only
    rw [Heap.back_frz, one_beq, Bool.not_true, cond_false, beq_self_eq_true, cond_true, hX4, Option.bind_some, bytes_all, Option.bind_some, hX.n]
    refine ⟨σ4, ?_⟩
    simp [oneOf]
  | falls hr ha hd ho =>
    rw [← c3] at ho hd
    have hb4 : d4.sto.get nameB = d1.sto.get nameB := hsame nameB ((ho nameB (by decide)).trans (hg2 nameB))
    have hf4 : d4.sto.get nameF = d1.sto.get nameF := hsame nameF ((ho nameF (by decide)).trans (hg2 nameF))
    have hup := c2.up
    rw [hd, c4] at hup
    rw [hf4] at hgf4
    rw [hb4] at hgb4
    rw [hr, show ((8 : Int) != 0) = true from rfl, cond_true, bne_self_eq_false, cond_false, hup, Option.bind_some]
    dsimp only
    rw [show (!true) = false from rfl, cond_false, e1', Option.bind_some]
    dsimp only
    rw [show (⟨#[102]⟩ : ByteArray) = nameF from rfl, show (⟨#[98]⟩ : ByteArray) = nameB from rfl, hgf4, Option.bind_some]
    dsimp only
    rw [hgb4, Option.bind_some]
    dsimp only
    rw [Heap.back_frz, one_beq, Bool.not_true, cond_false, show ((8 : Int) == 0) = false from rfl, cond_false, one_beq, cond_true]
    exact ⟨σ4, rfl⟩
theorem fuses_calls {L s : Nat} {at3 : Arr_3_Int} {b l : Sl} {σ0 : Heap} {cs : List law04_Call} {ps : List PCall} (hC : CallsIs σ0 l cs ps) {xs : List UInt8} (hX : b.Is eU8 σ0 xs) (hXr : Ro σ0 b) (hxl : xs.length ≤ 200) :
    ∀ (k i m : Nat) (σ : Heap) (d : SD), i + k = cs.length → k < m → Run σ0 σ d (101 * i) → d.s = s → d.sto.quota = 1048576 →
      ∃ σ', law19_ShelfFuses_L7 (R := AVal × Heap) c_law19_ShelfFuses L m b (some (s, 0)) l (i : Int) at3 σ (fun v σ => some (v, σ)) = some (.bool true, σ')
  | k, i, 0, σ, d, _, h, _, _, _ => by omega
  | 0, i, m + 1, σ, d, hi, _, hR, hs, hQ => by
    have hl := hC.few
    have : i = cs.length := by omega
    subst this
    exact fuses_end hC hX hXr hxl m σ d (hR.more (by omega)) hs hQ
  | k + 1, i, m + 1, σ, d, hi, hm, hR, hs, hQ => by
    have hil : i < cs.length := by omega
    have hl := hC.few
    obtain ⟨ck, cn, cna, cto, cb, co, cl, ys, bb, e1, e2, e3, e4, e5⟩ := at_call hC hil
    obtain ⟨f0, f1, f2, f3, f4⟩ := e5 σ hR.ro
    have p4 : c_law19_ShelfFuses.law19_Do = w_law19_Do := rfl
    rw [law19_ShelfFuses_L7_eq, p4, hC.is.n, lt_true hil, cond_true, dec0, Bool.and_true, cond_true, e4, Option.bind_some, show ((i : Nat) : Int).toNat = i from rfl, f0, Option.bind_some, f1, Option.bind_some, f2, Option.bind_some, f3, Option.bind_some, f4, Option.bind_some]
    dsimp only
    obtain ⟨σ1, d1, a1, a2, a3, a4, _⟩ := hR.doS (by omega) e2
    rw [hs] at a1
    rw [a1, Option.bind_some, wrap_i64_succ i (by omega)]
    exact fuses_calls hC hX hXr hxl k (i + 1) m σ1 d1 (by omega) (by omega) (a2.more (by omega)) (a4.trans hs) (by rw [a3, (doS_all d.sto _ hR.left).2.2]; exact hQ)
theorem law_ShelfFuses {σ0 : Heap} {l b : Sl} {at3 : Arr_3_Int} {xs : List UInt8} {cs : List law04_Call} {ps : List PCall} (hA : CallsArg σ0 l cs ps) (hX : SlArg eU8 σ0 b xs) : ∃ σ1, CallOK Try.prog T 12 [.slice l.b l.o l.n 5, .slice b.b b.o b.n 1, .agg [.int .i64 at3.i0, .int .i64 at3.i1, .int .i64 at3.i2]] σ0 (.bool true) σ1 := by
  have p1 : c_law19_ShelfFuses.law19_fit = w_law19_fit := rfl
  have p2 : c_law19_ShelfFuses.law19_small = w_law19_small := rfl
  have p3 : c_law19_ShelfFuses.file_New = w_file_New := rfl
  have hr := law19_ShelfFuses_eq (R := AVal × Heap) c_law19_ShelfFuses (cs.length + 1) l b at3 σ0 fun v σ => some (v, σ)
  have hK := K_law19_ShelfFuses c_law19_ShelfFuses ok_file_New ok_file_Store_Crash ok_file_Store_Fuse ok_file_Store_Up ok_law19_fit ok_shelf_Save ok_law19_Get ok_law19_small ok_law19_Do
  rw [p1, w_law19_fit, Option.bind_some, p2, p3] at hr
  simp only [Bool.not_true, cond_false] at hr
  rcases w_law19_small_eq hA with h | ⟨h, hC, _⟩
  · rw [h, Option.bind_some] at hr
    exact ⟨σ0, call_ok ok hK hr⟩
  rw [h, Option.bind_some] at hr
  dsimp only at hr
  rw [show (!true) = false from rfl, cond_false] at hr
  have hn := hX.n
  by_cases hx : xs.length > 200
  · rw [decide_eq_true (show (b.n : Int) > 200 by omega), cond_true] at hr
    exact ⟨σ0, call_ok ok hK hr⟩
  rw [decide_eq_false (show ¬ (b.n : Int) > 200 by omega), cond_false] at hr
  obtain ⟨σ1, d, a1, a2, a3, a4, a5⟩ := Run.new 1048576 (by decide) σ0
  rw [a1, Option.bind_some] at hr
  obtain ⟨σ3, r1⟩ := fuses_calls (L := cs.length + 1) (at3 := at3) hC (hX.is (by omega)) hX.ro (by omega) cs.length 0 (cs.length + 1) σ1 d (by omega) (by omega) (a2.more (by omega)) rfl (by rw [a3]; rfl)
  exact ⟨σ3, call_ok ok hK (hr.trans r1)⟩
end Go.Abs.TC
