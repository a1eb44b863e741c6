/-
The law FileRooms, on the machine.
-/
import Derived.Test.YtjfdgccoblanlaaMConJ
import Derived.Test.YtjfdgccoblanlaaEqC1
namespace Go.Abs.TC
open Go Go.Abs Go.Proofs

noncomputable def c_law04_FileRooms : C_law04_FileRooms := { law04_fit := w_law04_fit, law04_short := w_law04_short, file_New := w_file_New, law04_do := w_law04_do, law04_Call_kind := w_law04_Call_kind, file_Store_Used := w_file_Store_Used, file_Store_Up := w_file_Store_Up, law04_right := w_law04_right }
theorem doC_append {t : Sto} {p : PCall} (h : kindI p.Kind < 2) : t.doC p = t.append p.Name p.Data := by
  unfold Sto.doC
  rw [if_neg (by omega), if_neg (by omega), if_neg (by omega), if_neg (by omega), if_neg (by omega), if_neg (by omega)]
theorem append_full {t : Sto} {nm : ByteArray} {xs : List UInt8} (hd : t.down = false) (hn : nameOk nm = true) : ((t.append nm xs).1 == 5) = decide (t.quota < t.used + xs.length) := by
  unfold Sto.append
  rw [if_neg (by rw [hd]; decide), if_neg (by rw [hn]; decide)]
  by_cases h : t.quota < t.used + xs.length
  · rw [if_pos h, decide_eq_true h]; rfl
  · rw [if_neg h, decide_eq_false h]
    rcases change_cases t with ⟨c1, c2, c3⟩ | ⟨c1, c2, c3⟩
    · rw [c3]; rfl
    · rw [if_pos c2]; rfl
theorem rooms_loop {L s : Nat} {calls : Sl} {q : Int} (hq : q ≤ 9223372036854775807) {σ0 : Heap} {cs : List law04_Call} {ps : List PCall} (hC : CallsIs σ0 calls cs ps) :
    ∀ (k i m : Nat) (σ : Heap) (d : SD), i + k = cs.length → k < m → Run σ0 σ d (101 * i) → d.s = s → d.sto.quota = q.toNat →
      ∃ σ', law04_FileRooms_L8 (R := AVal × Heap) c_law04_FileRooms L m (some (s, 0)) q calls (i : Int) σ (fun v σ => some (v, σ)) = some (.bool true, σ')
  | k, i, 0, σ, d, _, h, _, _, _ => by omega
  | 0, i, m + 1, σ, d, hi, _, hR, hs, hQ => by
    rw [law04_FileRooms_L8_eq, hC.is.n, lt_false (by omega), cond_false]
    exact ⟨σ, rfl⟩
  | k + 1, i, m + 1, σ, d, hi, hm, hR, hs, hQ => by
    have hil : i < cs.length := by omega
    have hl := hC.few
    obtain ⟨ck, cn, cna, cto, cb, co, cl, xs, b, e1, e2, e3, e4, e5⟩ := at_call hC hil
    obtain ⟨f0, f1, f2, f3, f4⟩ := e5 σ hR.ro
    have p4 : c_law04_FileRooms.law04_do = w_law04_do := rfl
    have p7 : c_law04_FileRooms.law04_Call_kind = w_law04_Call_kind := rfl
    have p8 : c_law04_FileRooms.file_Store_Used = w_file_Store_Used := rfl
    have p9 : c_law04_FileRooms.file_Store_Up = w_file_Store_Up := rfl
    have p10 : c_law04_FileRooms.law04_right = w_law04_right := rfl
    have hqq : (if 0 > q then 0 else q) = (q.toNat : Int) := by split <;> omega
    rw [law04_FileRooms_L8_eq, p4, p7, p8, p9, p10, hqq, hC.is.n, lt_true hil, cond_true, dec0, Bool.and_true, cond_true, e4, Option.bind_some, show ((i : Nat) : Int).toNat = i from rfl, f0, Option.bind_some, f1, Option.bind_some, f2, Option.bind_some, f3, Option.bind_some, f4, Option.bind_some]
    dsimp only
    have u1 := hR.used
    have u2 := hR.up
    obtain ⟨σ1, d1, a1, a2, a3, a4, _⟩ := hR.do_ (by omega) e2
    have hA := a2.more (m := 101 * (i + 1)) (by omega)
    have u3 := hA.used
    have hU0 : d.sto.used ≤ q.toNat := by rw [← hQ, d.used_sto]; exact hR.st.used
    have hQ1 : d1.sto.quota = q.toNat := by rw [a3, (doC_all d.sto ⟨ck, cn, cna, cto, xs⟩ hR.left e2.hi).2.2]; exact hQ
    have hU : d1.sto.used ≤ q.toNat := by rw [← hQ1, d1.used_sto]; exact a2.st.used
    obtain ⟨σ', r1⟩ := rooms_loop hq hC k (i + 1) m σ1 d1 (by omega) (by omega) hA (a4.trans hs) hQ1
    rw [a4] at u3
    rw [hs] at a1 u1 u2 u3
    refine ⟨σ', ?_⟩
    rw [u1, Option.bind_some, u2, Option.bind_some, a1, Option.bind_some]
    dsimp only
    rw [w_law04_Call_kind, Option.bind_some]
    dsimp only
    have hend : decide ((d1.sto.used : Int) > (q.toNat : Int)) = false := decide_eq_false (by omega)
    have hend' : decide ((d1.sto.used : Int) < 0) = false := decide_eq_false (by omega)
    have hw := wrap_i64_succ i (by omega)
    by_cases hk : kindI ck < 2
    · rw [decide_eq_true hk, cond_true]
      cases hd : d.sto.down with
      | true => rw [Bool.not_true, cond_false, u3, Option.bind_some]; dsimp only; rw [hend, cond_false, u3, Option.bind_some]; dsimp only; rw [hend', cond_false, hw]; exact r1
      | false =>
        rw [Bool.not_false, cond_true, w_law04_right, Option.bind_some]
        dsimp only
        cases hn : nameOk cna with
        | false => rw [cond_false, u3, Option.bind_some]; dsimp only; rw [hend, cond_false, u3, Option.bind_some]; dsimp only; rw [hend', cond_false, hw]; exact r1
        | true =>
          rw [cond_true, doC_append (p := ⟨ck, cn, cna, cto, xs⟩) hk, append_full hd hn, wrap_i64_of (by omega) (by omega)]
          have hx : (decide (d.sto.quota < d.sto.used + xs.length) == decide ((cl : Int) > (q.toNat : Int) - (d.sto.used : Int))) = true := by
            rw [hQ, e3]
            rw [beq_iff_eq, decide_eq_decide]
            omega
          rw [hx, Bool.not_true, cond_false, u3, Option.bind_some]; dsimp only; rw [hend, cond_false, u3, Option.bind_some]; dsimp only; rw [hend', cond_false, hw]; exact r1
    · rw [decide_eq_false hk, cond_false, u3, Option.bind_some]; dsimp only; rw [hend, cond_false, u3, Option.bind_some]; dsimp only; rw [hend', cond_false, hw]; exact r1
theorem law_FileRooms {σ0 : Heap} {q : Int} (hq : q ≤ 9223372036854775807) {calls : Sl} {cs : List law04_Call} {ps : List PCall} (hA : CallsArg σ0 calls cs ps) : ∃ σ1, CallOK Try.prog T 5 [.int .i64 q, .slice calls.b calls.o calls.n 5] σ0 (.bool true) σ1 := by
  have p1 : c_law04_FileRooms.law04_fit = w_law04_fit := rfl
  have p2 : c_law04_FileRooms.law04_short = w_law04_short := rfl
  have p3 : c_law04_FileRooms.file_New = w_file_New := rfl
  have hr := law04_FileRooms_eq (R := AVal × Heap) c_law04_FileRooms (cs.length + 1) q calls σ0 fun v σ => some (v, σ)
  have hK := K_law04_FileRooms c_law04_FileRooms ok_law04_fit ok_law04_short ok_file_New ok_law04_do ok_law04_Call_kind ok_file_Store_Used ok_file_Store_Up ok_law04_right
  rw [p1, w_law04_fit, Option.bind_some, p2, p3] at hr
  simp only [Bool.not_true, cond_false] at hr
  rcases w_law04_short_eq hA with h | ⟨h, hC, _⟩
  · rw [h, Option.bind_some] at hr
    exact ⟨σ0, call_ok ok hK hr⟩
  rw [h, Option.bind_some] at hr
  dsimp only at hr
  rw [show (!true) = false from rfl, cond_false] at hr
  obtain ⟨σ1, d, a1, a2, a3, _⟩ := Run.new q hq σ0
  obtain ⟨σ3, r1⟩ := rooms_loop (L := cs.length + 1) hq hC cs.length 0 (cs.length + 1) σ1 d (by omega) (by omega) (a2.more (by omega)) rfl (by rw [a3]; rfl)
  rw [a1, Option.bind_some] at hr
  exact ⟨σ3, call_ok ok hK (hr.trans r1)⟩
end Go.Abs.TC
