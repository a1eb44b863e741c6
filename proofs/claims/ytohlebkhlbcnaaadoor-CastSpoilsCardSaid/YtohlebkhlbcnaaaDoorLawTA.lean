/-
CastAny, CastSpoils on the machine.
-/
import Derived.Test.YtohlebkhlbcnaaaDoorMConW
import Derived.Test.YtohlebkhlbcnaaaDoorLawTW
namespace Go.Abs.TB
open Go Go.Abs Go.Proofs

/-- What Import leaves, for any text: an error and no list, or a list that tells the text. -/
theorem import_any {σ : Heap} {l : List UInt8} (hu : GU σ) (he : GE σ) (hl : l.length ≤ 600000) (hp : GP σ) :
    (w_cast_Import (ba l) σ = some ((0, 0, ⟨none, 0, 0⟩, 1), σ)) ∨ ∃ (w v : Nat) (es : List Ev) (q : Sl) (σ1 : Heap), w_cast_Import (ba l) σ = some (((w : Int), (v : Int), q, 0), σ1) ∧ σ <+: σ1 ∧ q.Is eEv σ1 es ∧ es.length ≤ 100000 ∧ RightL 0 es ∧ exportL w v es = l ∧ (∀ e ∈ es, wholeL e.s.data.toList = e.s.data.toList) ∧ ExpP (w : Int) (v : Int) q σ1 es := by
  obtain ⟨x, hx⟩ := imp_ends (l := l) (by omega)
  have hP : ImpP (ba l) σ x := ⟨hu, he, by rw [ba_size]; omega, by rw [ba_data]; exact hx⟩
  have hi := w_cast_Import_eq hP
  rw [ba_data] at hi
  cases x with
  | none => exact .inl hi
  | some es =>
    obtain ⟨w, v, e1, e2, e3, e4, e5, e6, e7⟩ := imp_sound hx
    have hlen : es.length ≤ 100000 := by
      have h1 : ∀ es : List Ev, 7 * es.length ≤ (es.flatMap lineL).length := fun es => by
        induction es with
        | nil => simp
        | cons e es ih =>
          have : 7 ≤ (lineL e).length := by unfold lineL sgn; simp only [List.length_append, List.length_cons, List.length_nil]; omega
          rw [List.flatMap_cons, List.length_append, List.length_cons]
          omega
      have h2 := congrArg List.length e5
      unfold exportL at h2
      rw [List.length_append] at h2
      have h3 := h1 es
      omega
    have hR := listB_right e6
    have hI := (fresh_own eEv σ es.isEmpty es (fun h => by rw [List.isEmpty_iff] at h; exact h)).is (by omega)
    refine .inr ⟨w, v, es, (fresh eEv σ es.isEmpty es).1, (fresh eEv σ es.isEmpty es).2, ?_, fresh_pre .., hI, hlen, hR, e5, e7, hp.pre (fresh_pre ..), by constructor <;> omega, by constructor <;> omega, hI, hlen, fun e he => right_Fit (hR.all e he)⟩
    rw [hi]
    unfold impV
    dsimp only
    rw [e1, e2]
noncomputable def c_CastAny : C_law17_CastAny := { law17_fit := w_law17_fit, law17_write := w_law17_write, law17_whole := w_law17_whole, cast_Import := w_cast_Import, ref12_List := w_ref12_List }
theorem Any_loop {L : Nat} {q : Sl} {σ : Heap} {w v : Nat} {es : List Ev} {l : List UInt8} (hq : q.Is eEv σ es) (hn : es.length ≤ 100000) (hR : RightL 0 es) (hl : exportL w v es = l) (hw : ∀ e ∈ es, wholeL e.s.data.toList = e.s.data.toList) (hE : ExpP (w : Int) (v : Int) q σ es) :
    ∀ (m i : Nat), es.length - i < m → i ≤ es.length → law17_CastAny_L9 c_CastAny L m (ba l) (w : Int) (v : Int) q q (es.length : Int) (i : Int) σ (fun v σ => some (v, σ)) = some (.bool true, σ)
  | 0, _, h, _ => by omega
  | m + 1, i, hm, hi => by
    have p1 : c_CastAny.law17_whole = w_law17_whole := rfl
    have p2 : c_CastAny.ref12_List = w_ref12_List := rfl
    have p3 : c_CastAny.law17_write = w_law17_write := rfl
    rw [law17_CastAny_L9_eq, p1, p2, p3, hq.n]
    by_cases h : i < es.length
    · have hge : es[i]? = some es[i] := List.getElem?_eq_getElem h
      have hwe := hw es[i] (List.getElem_mem h)
      have hF := right_Fit (hR.all es[i] (List.getElem_mem h))
      generalize es[i] = e at hge hwe hF
      obtain ⟨lb, hb, hc⟩ := hq.cell hge
      have c0 := hc 0 (by decide); have c1 := hc 1 (by decide); have c2 := hc 2 (by decide); have c3 := hc 3 (by decide); have c4 := hc 4 (by decide)
      change Heap.cell? σ lb (q.o + i * 5 + 0) = some (AVal.int .i64 e.t) at c0
      change Heap.cell? σ lb (q.o + i * 5 + 1) = some (AVal.int .i64 e.k) at c1
      change Heap.cell? σ lb (q.o + i * 5 + 2) = some (AVal.str e.s) at c2
      change Heap.cell? σ lb (q.o + i * 5 + 3) = some (AVal.int .i64 e.w) at c3
      change Heap.cell? σ lb (q.o + i * 5 + 4) = some (AVal.int .i64 e.h) at c4
      rw [Nat.add_zero] at c0
      have hnext : IntKind.i64.wrap ((i : Int) + 1) = ((i + 1 : Nat) : Int) := wrap_i64_succ i (by omega)
      have hes := hF.s
      have hwh : w_law17_whole e.s σ.frz = some (e.s, σ.frz) := by
        rw [w_law17_whole_eq (by omega), hwe, ← ba_self]
      rw [lt_true h, cond_true, dec0, Bool.true_and, cond_true, hb, Option.bind_some, Int.toNat_natCast, c0, c1, c2, c3, c4]
      simp only [int?, str?, Option.bind_some, if_true, hnext, hwh, beq_self_eq_true, Bool.not_true, cond_false, frz_frz']
      exact Any_loop hq hn hR hl hw hE m (i + 1) (by omega) (by omega)
    · rw [lt_false h, cond_false, decide_eq_true (show (w : Int) ≥ 0 by omega), cond_true, decide_eq_true (show (v : Int) ≥ 0 by omega), cond_true, w_ref12_List_eq hq (by omega) hR, Option.bind_some]
      dsimp only
      rw [cond_true, w_law17_write_eq hE, Option.bind_some, hl, beq_self_eq_true]
theorem law_CastAny (s : ByteArray) {σ : Heap} (hp : PowOK true true σ) : ∃ σ1, CallOK Tryd.prog T 12 [.str s] σ (.bool true) σ1 := by
  have hK := K_law17_CastAny c_CastAny ok_law17_fit ok_law17_write ok_law17_whole ok_cast_Import ok_ref12_List
  obtain ⟨l, rfl⟩ : ∃ l, s = ba l := ⟨_, ba_self s⟩
  have hr := law17_CastAny_eq (R := AVal × Heap) c_CastAny 100001 (ba l) σ fun v σ => some (v, σ)
  have q1 : c_CastAny.law17_fit = w_law17_fit := rfl
  have q2 : c_CastAny.cast_Import = w_cast_Import := rfl
  rw [q1, q2, w_law17_fit_eq hp.gp, Option.bind_some, Bool.not_true, cond_false, ba_size] at hr
  by_cases h2 : l.length > 2000
  · rw [decide_eq_true (show (l.length : Int) > 2000 by omega), cond_true] at hr
    exact ⟨_, call_ok ok hK hr⟩
  · rw [decide_eq_false (show ¬ (l.length : Int) > 2000 by omega), cond_false] at hr
    rcases import_any (l := l) hp.gu hp.ge (by omega) hp.gp with h | ⟨w, v, es, q, σ1, h, hpre, hq, hn, hR, hl, hw, hE⟩
    · rw [h, Option.bind_some] at hr
      exact ⟨_, call_ok ok hK (hr.trans rfl)⟩
    · rw [h, Option.bind_some] at hr
      dsimp only at hr
      rw [bne_self_eq_false, cond_false, hq.n] at hr
      exact ⟨_, call_ok ok hK (hr.trans (Any_loop (L := 100001) hq hn hR hl hw hE 100001 0 (by omega) (by omega)))⟩
end Go.Abs.TB
