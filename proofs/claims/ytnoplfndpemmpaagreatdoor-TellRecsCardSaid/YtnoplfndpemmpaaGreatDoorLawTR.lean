/-
The law's fit as a contract; TellRecs.
-/
import Derived.Test.YtnoplfndpemmpaaGreatDoorMConT
import Derived.Test.YtnoplfndpemmpaaGreatDoorRunE
namespace Go.Abs.TE
open Go Go.Abs Go.Proofs
/-- The globals that the run reads lie in memory. -/
def PowE (σ : Heap) : Prop := ∀ b, b < 13 → σ[b]? = heap0[b]?
theorem heap0_ren {b : Nat} {x : Blk} (h : heap0[b]? = some x) (r : Nat → Nat) : x.frz = x ∧ x.ren r = x ∧ x.isRW = false := by
  match b, h with
  | 0, h | 1, h | 2, h | 3, h | 6, h | 7, h | 8, h | 9, h | 10, h | 11, h | 12, h => simp [heap0] at h; subst h; exact ⟨rfl, rfl, rfl⟩
  | 4, h =>
    obtain rfl : _ = x := Option.some.inj h
    exact ⟨rfl, by show Blk.row (rens r _) _ = _; rw [flats_ren (by rfl)], rfl⟩
  | 5, h =>
    obtain rfl : _ = x := Option.some.inj h
    exact ⟨rfl, by show Blk.row (rens r _) _ = _; rw [flats_ren (by rfl)], rfl⟩
  | b + 13, h => simp [heap0] at h
theorem PowE.gp {σ : Heap} (h : PowE σ) : GP σ := (h 5 (by decide)).trans rfl
noncomputable def w_law26_fit (σ : Heap) : Option (Bool × Heap) := wIf (PowE σ) (true, σ)
theorem globLt (g : Nat) (h : T.glob g = true) : g < 13 := by
  have : memN [0, 1, 2, 3, 4, 5, 6, 7, 8, 9, 10, 11, 12] g = true := h
  have := memN_mem this
  simp at this; omega
theorem ok_law26_fit : Ok_law26_fit w_law26_fit := fun σ v σ' h => by
  obtain ⟨hp, e⟩ := wIf_some h
  injection e with e1 e2
  subst e1; subst e2
  obtain ⟨σ1, h1⟩ := fit26_heap0
  refine call_frame_flat h1 rfl (fun b x hx => (heap0_ren hx id).2.2) (fun b => b) (fun b x hx => ⟨x, ?_, ?_⟩) fun g hg => ⟨rfl, globLt g hg⟩
  · have hb : b < 13 := (List.getElem?_eq_some_iff.1 hx).1
    rw [hp b hb]; exact hx
  · exact (heap0_ren hx (fun b => b)).1.trans (heap0_ren hx _).2.1.symm
noncomputable def c_TellRecs : C_law26_TellRecs := ⟨w_law26_fit, w_law13_Plan_Few, w_law13_Plan_Tame, w_tell_Rec, w_law26_events⟩
theorem u8_ten (x : UInt8) : (((x.toNat : Nat) : Int) == 10) = (x == 10) := by
  by_cases h : x = 10
  · subst h; rfl
  · rw [beq_eq_false_iff_ne.2 h]
    refine beq_eq_false_iff_ne.2 fun e => h ?_
    have : x.toNat = 10 := by omega
    exact UInt8.toNat_inj.1 this
theorem count_loop {R : Type} {L : Nat} {l : Sl} {K : AVal → Heap → Option R} {σ : Heap} {xs : List UInt8} (hx : xs.length ≤ 10000000) :
    ∀ (d i m n : Nat), i + d = xs.length → d < m → n + (xs.drop i).count 10 = xs.count 10 → n ≤ i →
      law26_TellRecs_L9 c_TellRecs L m l (ba xs) (n : Int) (xs.length : Int) (i : Int) σ K = (w_law26_events l σ).bind fun q8 => bif ((ba xs).toList == q8.1.toList) then K (.bool (((xs.count 10 : Nat) : Int) == (l.n : Int))) q8.2 else K (.bool false) q8.2
  | d, i, 0, _, _, h, _, _ => by omega
  | 0, i, m + 1, n, h, _, hn, _ => by
    rw [List.drop_of_length_le (by omega), List.count_nil, Nat.add_zero] at hn
    rw [law26_TellRecs_L9_eq, lt_false (by omega), cond_false, hn]
    rfl
  | d + 1, i, m + 1, n, h, hm, hn, hni => by
    have hi : i < xs.length := by omega
    have hdrop : xs.drop i = xs[i] :: xs.drop (i + 1) := List.drop_eq_getElem_cons hi
    rw [hdrop, List.count_cons] at hn
    rw [law26_TellRecs_L9_eq, lt_true hi, cond_true, ba_size, dec0, lt_true hi, Bool.true_and, cond_true, Int.toNat_natCast, show (ba xs).data.toList = xs from rfl, List.getD_eq_getElem?_getD, List.getElem?_eq_getElem hi, Option.getD_some, u8_ten]
    cases he : (xs[i] == 10)
    · rw [he, if_neg (by simp)] at hn
      rw [cond_false, wrap_i64_succ i (by omega)]
      exact count_loop hx d (i + 1) m n (by omega) (by omega) (by omega) (by omega)
    · rw [he, if_pos rfl] at hn
      rw [cond_true, wrap_i64_succ i (by omega), wrap_i64_succ n (by omega)]
      exact count_loop hx d (i + 1) m (n + 1) (by omega) (by omega) (by omega) (by omega)
theorem law_TellRecs (p : law13_Plan) {σ : Heap} (hp : PowE σ) {xs : List api_Event} (hn : p.Events.n = xs.length) (hI : xs.length ≤ 1099511627776 → p.Events.Is eEv σ xs) : ∃ σ1, CallOK Tryz.prog T 6 [t_law13_Plan.av p] σ (tBool.av true) σ1 := by
  have hK := K_law26_TellRecs c_TellRecs ok_law26_fit ok_law13_Plan_Few ok_law13_Plan_Tame ok_tell_Rec ok_law26_events
  have p1 : c_TellRecs.law26_fit = w_law26_fit := rfl
  have p2 : c_TellRecs.law13_Plan_Few = w_law13_Plan_Few := rfl
  have p3 : c_TellRecs.law13_Plan_Tame = w_law13_Plan_Tame := rfl
  have p4 : c_TellRecs.tell_Rec = w_tell_Rec := rfl
  have hr := law26_TellRecs_eq (R := AVal × Heap) c_TellRecs ((eventsB (tameEv 0 xs)).length + 1) p σ fun v σ => some (v, σ)
  rw [p1, p2, p3, p4, show w_law26_fit σ = some (true, σ) from wIf_eq hp, Option.bind_some] at hr
  dsimp only [Bool.not_true, cond_false] at hr
  rw [show w_law13_Plan_Few p σ = some (decide ((p.Events.n : Int) ≤ 40) && decide ((p.Marks.n : Int) ≤ 60), σ) from rfl, Option.bind_some] at hr
  cases hF : (decide ((p.Events.n : Int) ≤ 40) && decide ((p.Marks.n : Int) ≤ 60)) with
  | false =>
    rw [hF] at hr
    exact ⟨_, call_ok ok hK (hr.trans rfl)⟩
  | true =>
    rw [hF] at hr
    rw [Bool.and_eq_true, decide_eq_true_iff, decide_eq_true_iff] at hF
    have hle : xs.length ≤ 40 := by have := hF.1; omega
    dsimp only [Bool.not_true, cond_false] at hr
    rw [show w_law13_Plan_Tame p σ = some (fresh eEv σ (tameEv 0 xs).isEmpty (tameEv 0 xs)) from w_ref12_Tame_eq (hI (by omega)) (by omega), Option.bind_some] at hr
    have hlen := tameEv_len xs 0
    have hown := fresh_own eEv σ (tameEv 0 xs).isEmpty (tameEv 0 xs) fun h => List.isEmpty_iff.1 h
    have hpre := fresh_pre eEv σ (tameEv 0 xs).isEmpty (tameEv 0 xs)
    have his := hown.is (by omega)
    generalize fresh eEv σ (tameEv 0 xs).isEmpty (tameEv 0 xs) = q at hr hown hpre his
    have hfit := tameEv_fit xs 0
    have hpre6 : q.2 <+: q.2 ++ [.row [.slice none 0 0 1, .slice q.1.b q.1.o q.1.n 5, .slice none 0 0 2] .rw] := List.prefix_append ..
    have hgp6 : GP (q.2 ++ [.row [.slice none 0 0 1, .slice q.1.b q.1.o q.1.n 5, .slice none 0 0 2] .rw]) := (hp.gp.pre hpre).pre hpre6
    have hR : RecAt (q.2 ++ [.row [.slice none 0 0 1, .slice q.1.b q.1.o q.1.n 5, .slice none 0 0 2] .rw]) q.2.length (tameEv 0 xs) := ⟨⟨q.1, by
      unfold Heap.cell?
      rw [row?_of (m := .rw) (get_push ..) (by simp)]
      rfl, his.pre hpre6⟩, hgp6, hfit, by omega⟩
    have hE : EvsAt (q.2 ++ [.row [.slice none 0 0 1, .slice q.1.b q.1.o q.1.n 5, .slice none 0 0 2] .rw]) q.1 (tameEv 0 xs) := ⟨his.pre hpre6, hgp6, hfit, by omega⟩
    unfold alloc at hr
    dsimp only at hr
    rw [w_tell_Rec_eq hR, Option.bind_some] at hr
    dsimp only at hr
    have hbl := eventsB_len hfit
    have hc := fun {R : Type} (K : AVal → Heap → Option R) (σ : Heap) => count_loop (L := (eventsB (tameEv 0 xs)).length + 1) (l := q.1) (K := K) (σ := σ) (xs := eventsB (tameEv 0 xs)) (by omega) (eventsB (tameEv 0 xs)).length 0 ((eventsB (tameEv 0 xs)).length + 1) 0 (by omega) (by omega) (by rw [List.drop_zero, Nat.zero_add]) (by omega)
    simp only [show ((0 : Nat) : Int) = 0 from rfl] at hc
    rw [ba_size, hc, w_law26_events_eq hE, Option.bind_some] at hr
    dsimp only at hr
    rw [beq_self_eq_true, cond_true, events_count, show (((tameEv 0 xs).length : Int) == (q.1.n : Int)) = true from beq_iff_eq.2 (by rw [hown.len])] at hr
    exact ⟨_, call_ok ok hK hr⟩
end Go.Abs.TE
