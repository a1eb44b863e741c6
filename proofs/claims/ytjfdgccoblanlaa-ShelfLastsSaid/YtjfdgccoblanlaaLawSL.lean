/-
The law ShelfLasts, on the machine.
-/
import Derived.Test.YtjfdgccoblanlaaMConL
namespace Go.Abs.TC
open Go Go.Abs Go.Proofs

noncomputable def c_law19_ShelfLasts : C_law19_ShelfLasts := { file_New := w_file_New, file_Store_Crash := w_file_Store_Crash, law19_fit := w_law19_fit, shelf_Save := w_shelf_Save, law19_Get := w_law19_Get, law19_small := w_law19_small, law19_Do := w_law19_Do }
theorem lasts_more {L s : Nat} {keep : Int} {b more : Sl} {σ0 : Heap} {cs : List law04_Call} {ps : List PCall} (hC : CallsIs σ0 more cs ps) {xs : List UInt8} (hX : b.Is eU8 σ0 xs) (hXr : Ro σ0 b) :
    ∀ (k i m : Nat) (σ : Heap) (d : SD), i + k = cs.length → k < m → Run σ0 σ d (1000 + 101 * i) → d.s = s → d.sto.get nameF = some ⟨nameF, xs, xs.length⟩ →
      ∃ σ', law19_ShelfLasts_L9 (R := AVal × Heap) c_law19_ShelfLasts L m b keep (some (s, 0)) more (i : Int) σ (fun v σ => some (v, σ)) = some (.bool true, σ')
  | k, i, 0, σ, d, _, h, _, _, _ => by omega
  | 0, i, m + 1, σ, d, hi, _, hR, hs, hF => by
    have p1 : c_law19_ShelfLasts.file_Store_Crash = w_file_Store_Crash := rfl
    have p2 : c_law19_ShelfLasts.law19_Get = w_law19_Get := rfl
    obtain ⟨σ1, d1, a1, a2, a3, a4, a5⟩ := hR.crash0
    have hget := a2.getz nameF
    have hg : d1.sto.get nameF = some ⟨nameF, xs, xs.length⟩ := by rw [a3]; exact crash_all rfl hF
    rw [getS_sto, getT_eq (by rw [a3]; rfl), hg, a4, hs] at hget
    have X2 := (is_keep hX hXr a2.ro).read
    have hz : eU8.z = 1 := rfl
    rw [hz] at X2
    rw [hs] at a1
    rw [law19_ShelfLasts_L9_eq, p1, p2, hC.is.n, lt_false (by omega), cond_false, a1, Option.bind_some]
    dsimp only
    rw [show (⟨#[102]⟩ : ByteArray) = nameF from rfl, hget, Option.bind_some]
    dsimp only
    rw [Heap.back_frz, X2, Option.bind_some, bytes_all, Option.bind_some, hX.n]
    refine ⟨σ1, ?_⟩
    simp [oneOf]
  | k + 1, i, m + 1, σ, d, hi, hm, hR, hs, hF => by
    have hil : i < cs.length := by omega
    have hl := hC.few
    obtain ⟨ck, cn, cna, cto, cb, co, cl, ys, bb, e1, e2, e3, e4, e5⟩ := at_call hC hil
    obtain ⟨f0, f1, f2, f3, f4⟩ := e5 σ hR.ro
    have p1 : c_law19_ShelfLasts.file_Store_Crash = w_file_Store_Crash := rfl
    have p4 : c_law19_ShelfLasts.law19_Do = w_law19_Do := rfl
    rw [law19_ShelfLasts_L9_eq, p1, p4, hC.is.n, lt_true hil, cond_true, dec0, Bool.and_true, cond_true, e4, Option.bind_some, show ((i : Nat) : Int).toNat = i from rfl, f0, Option.bind_some, f1, Option.bind_some, f2, Option.bind_some, f3, Option.bind_some, f4, Option.bind_some]
    dsimp only
    rw [wrap_i64_succ i (by omega)]
    generalize ((IntKind.i64.wrap (BitVec.ofInt IntKind.i64.bits (i : Int) &&& BitVec.ofInt IntKind.i64.bits 3).toNat) == 3) = B
    have step : ∀ (σ1 : Heap) (d1 : SD), Run σ0 σ1 d1 (1000 + 101 * (i + 1)) → d1.s = s → d1.sto.get nameF = some ⟨nameF, xs, xs.length⟩ →
        ∃ σ', (bif B then (alloc σ1 [.int .i64 keep, .int .i64 cn] fun b15 σ16 => (w_file_Store_Crash (some (s, 0)) ⟨(some b15), 0, 2⟩ σ16).bind fun q17 =>
          law19_ShelfLasts_L9 (R := AVal × Heap) c_law19_ShelfLasts L m b keep (some (s, 0)) more ((i + 1 : Nat) : Int) q17.2 (fun v σ => some (v, σ)))
          else law19_ShelfLasts_L9 (R := AVal × Heap) c_law19_ShelfLasts L m b keep (some (s, 0)) more ((i + 1 : Nat) : Int) σ1 (fun v σ => some (v, σ))) = some (.bool true, σ') := fun σ1 d1 hR1 hs1 hF1 => by
      cases B with
      | false =>
        rw [cond_false]
        exact lasts_more (L := L) hC hX hXr k (i + 1) m σ1 d1 (by omega) (by omega) hR1 hs1 hF1
      | true =>
        rw [cond_true]
        unfold alloc
        dsimp only
        obtain ⟨σ2, d2, c1, c2, c3, c4, _⟩ := hR1.crashL [keep, cn] (by simp)
        have c1' : w_file_Store_Crash (some (d1.s, 0)) ⟨some σ1.length, 0, 2⟩ (σ1 ++ [.row [.int .i64 keep, .int .i64 cn] .rw]) = some ((), σ2) := c1
        rw [hs1] at c1'
        rw [c1', Option.bind_some]
        exact lasts_more (L := L) hC hX hXr k (i + 1) m σ2 d2 (by omega) (by omega) c2 (c4.trans hs1) (by rw [c3]; exact crash_all rfl hF1)
    rw [show (⟨#[102]⟩ : ByteArray) = nameF from rfl, ba_beq, ba_beq]
    by_cases h1 : cna = nameF
    · rw [decide_eq_true h1, Bool.not_true, cond_false]
      exact step σ d (hR.more (by omega)) hs hF
    rw [decide_eq_false h1, Bool.not_false, cond_true]
    by_cases h2 : cto = nameF
    · rw [decide_eq_true h2, Bool.not_true, cond_false]
      exact step σ d (hR.more (by omega)) hs hF
    rw [decide_eq_false h2, Bool.not_false, cond_true]
    obtain ⟨σ1, d1, a1, a2, a3, a4, _⟩ := hR.doS (by omega) e2
    rw [hs] at a1
    rw [a1, Option.bind_some]
    exact step σ1 d1 (a2.more (by omega)) (a4.trans hs) (by rw [a3]; exact (doS_other hR.nod h1 h2).trans hF)
theorem law_ShelfLasts {σ0 : Heap} {b more : Sl} {keep : Int} {xs : List UInt8} {cs : List law04_Call} {ps : List PCall} (hX : SlArg eU8 σ0 b xs) (hA : CallsArg σ0 more cs ps) : ∃ σ1, CallOK Try.prog T 10 [.slice b.b b.o b.n 1, .slice more.b more.o more.n 5, .int .i64 keep] σ0 (.bool true) σ1 := by
  have p1 : c_law19_ShelfLasts.law19_fit = w_law19_fit := rfl
  have p2 : c_law19_ShelfLasts.law19_small = w_law19_small := rfl
  have p3 : c_law19_ShelfLasts.file_New = w_file_New := rfl
  have p4 : c_law19_ShelfLasts.shelf_Save = w_shelf_Save := rfl
  have hr := law19_ShelfLasts_eq (R := AVal × Heap) c_law19_ShelfLasts (cs.length + 1) b more keep σ0 fun v σ => some (v, σ)
  have hK := K_law19_ShelfLasts c_law19_ShelfLasts ok_file_New ok_file_Store_Crash ok_law19_fit ok_shelf_Save ok_law19_Get ok_law19_small ok_law19_Do
  rw [p1, w_law19_fit, Option.bind_some, p2, p3, p4] at hr
  simp only [Bool.not_true, cond_false] at hr
  rcases w_law19_small_eq hA with h | ⟨h, hC, _⟩
  · rw [h, Option.bind_some] at hr
    exact ⟨σ0, call_ok ok hK hr⟩
  rw [h, Option.bind_some] at hr
  dsimp only at hr
  rw [show (!true) = false from rfl, cond_false] at hr
  have hn := hX.n
  by_cases hx : xs.length > 200
  · rw [decide_eq_true (show (b.n : Int) > 200 by omega), cond_true] at hr
    exact ⟨σ0, call_ok ok hK hr⟩
  rw [decide_eq_false (show ¬ (b.n : Int) > 200 by omega), cond_false] at hr
  have hXi := hX.is (by omega)
  obtain ⟨σ1, d, a1, a2, a3, a4, a5⟩ := Run.new 1048576 (by decide) σ0
  rw [a1, Option.bind_some] at hr
  obtain ⟨σ2, d2, b1, b2, b3, b4, _⟩ := a2.save (by omega) nameF (hXi.pre a4) (fun c hc hm => by have := a5 c hm; have := hXi.lt hc; omega) (by omega)
  obtain ⟨s1, s2, s3, s4⟩ := save_room (n := nameF) (xs := xs) a2.nod (by rw [a3]; rfl) (by rw [a3]; rfl) nameF_ok nameF_ne (by rw [a3]; show 0 + xs.length ≤ 1048576; omega)
  rw [s1] at b1
  unfold nameF at b1
  dsimp only at hr
  rw [b1, Option.bind_some] at hr
  dsimp only at hr
  rw [bne_self_eq_false, cond_false] at hr
  obtain ⟨σ3, r1⟩ := lasts_more (L := cs.length + 1) (keep := keep) hC hXi hX.ro cs.length 0 (cs.length + 1) σ2 d2 (by omega) (by omega) (b2.more (by omega)) b4 (by rw [b3]; exact s4)
  exact ⟨σ3, call_ok ok hK (hr.trans r1)⟩
end Go.Abs.TC
