/-
JsonTexts and JsonAny answer true.
-/
import Derived.Test.YtohlebkhlbcnaaaDoorMConQ
namespace Go.Abs.TB
open Go Go.Abs Go.Proofs

noncomputable def c_JsonTexts : C_law03_JsonTexts := { law03_fit := w_law03_fit, json_Quote := w_json_Quote, json_Unquote := w_json_Unquote, law03_whole := w_law03_whole }
theorem JsonTexts_loop {L : Nat} {q : List UInt8} (hq : ∀ b ∈ q, 32 ≤ b.toNat ∧ b.toNat ≠ 127) (hl : q.length ≤ 1000000) : ∀ (k i m : Nat) (σ : Heap), i + k = q.length → k < m →
    law03_JsonTexts_L10 (R := AVal × Heap) c_JsonTexts L m (ba q) (q.length : Int) (i : Int) σ (fun v σ => some (v, σ)) = some (.bool true, σ)
  | k, i, 0, σ, _, h => by omega
  | 0, i, m + 1, σ, h, _ => by rw [law03_JsonTexts_L10_eq, lt_false (by omega), cond_false]
  | k + 1, i, m + 1, σ, h, hm => by
    have hi : i < q.length := by omega
    rw [law03_JsonTexts_L10_eq, lt_true hi, cond_true, ba_size, ba_data, dec0, lt_true hi, Bool.and_self, cond_true, Int.toNat_natCast]
    have hb := hq (q.getD i 0) (by rw [List.getD_eq_getElem?_getD, List.getElem?_eq_getElem hi]; exact List.getElem_mem hi)
    rw [decide_eq_false (show ¬ (((q.getD i 0).toNat : Nat) : Int) < 32 by omega), cond_false, cond_true, show ((((q.getD i 0).toNat : Nat) : Int) == 127) = false by rw [beq_eq_false_iff_ne]; omega, cond_false, wrap_i64_succ i (by omega)]
    exact JsonTexts_loop hq hl k (i + 1) m σ (by omega) (by omega)
theorem law_JsonTexts (s more : ByteArray) {σ : Heap} {e : Bool} (hw : PowOK true e σ) : ∃ σ1, CallOK Tryd.prog T 6 [tStr.av s, tStr.av more] σ (tBool.av true) σ1 := by
  have hK := K_law03_JsonTexts c_JsonTexts ok_law03_fit ok_json_Quote ok_json_Unquote ok_law03_whole
  have p1 : c_JsonTexts.law03_fit = w_law03_fit := rfl
  have p2 : c_JsonTexts.json_Quote = w_json_Quote := rfl
  have p3 : c_JsonTexts.json_Unquote = w_json_Unquote := rfl
  have p4 : c_JsonTexts.law03_whole = w_law03_whole := rfl
  obtain ⟨l, rfl⟩ : ∃ l, s = ba l := ⟨_, ba_self s⟩
  obtain ⟨r, rfl⟩ : ∃ l, more = ba l := ⟨_, ba_self more⟩
  have go : ∃ σ1, callC (R := AVal × Heap) T (O_law03_JsonTexts c_JsonTexts) 100000 2 6 [.str (ba l), .str (ba r)] σ (fun v σ => some (v, σ)) = some (.bool true, σ1) := by
    rw [law03_JsonTexts_eq, p1, p2, p3, p4, w_law03_fit_eq hw.ga, Option.bind_some]
    dsimp only
    rw [Bool.not_true, cond_false, ba_size, ba_size]
    by_cases h1 : l.length ≤ 300
    · rw [show decide ((l.length : Int) > 300) = false by simp; omega, cond_false]
      by_cases h2 : r.length ≤ 300
      · rw [show decide ((r.length : Int) > 300) = false by simp; omega, cond_false]
        have hql := quoteL_len l
        have hwl := wholeL_len l
        rw [w_json_Quote_eq (by rw [ba_size]; omega), Option.bind_some]
        dsimp only
        rw [quoteB_L, ba_data, ba_size, if_pos (by omega), ba_append, w_json_Unquote_eq hw.gu (by rw [ba_size, List.length_append]; omega), Option.bind_some]
        have hu : unqV (ba (quoteL l ++ r)) = (ba (wholeL l), ba r, true) := by
          unfold unqV
          rw [ba_data, unqL_back]
        rw [hu]
        dsimp only
        rw [Bool.not_true, cond_false, beq_self_eq_true, Bool.not_true, cond_false, w_law03_whole_eq (by rw [ba_size]; omega), Option.bind_some, ba_data]
        dsimp only
        rw [beq_self_eq_true, Bool.not_true, cond_false, w_json_Quote_eq (by rw [ba_size]; omega), Option.bind_some, quoteB_L, ba_data, quoteL_whole]
        dsimp only
        rw [beq_self_eq_true, Bool.not_true, cond_false, show (0 : Int) = ((0 : Nat) : Int) from rfl]
        exact ⟨_, JsonTexts_loop (quote_ok l) (by omega) (quoteL l).length 0 100000 σ (by omega) (by omega)⟩
      · rw [show decide ((r.length : Int) > 300) = true by simp; omega, cond_true]
        exact ⟨_, rfl⟩
    · rw [show decide ((l.length : Int) > 300) = true by simp; omega, cond_true]
      exact ⟨_, rfl⟩
  obtain ⟨σ1, h⟩ := go
  exact ⟨σ1, call_ok ok hK h⟩
noncomputable def c_JsonAny : C_law03_JsonAny := { law03_fit := w_law03_fit, json_Quote := w_json_Quote, json_Unquote := w_json_Unquote, law03_whole := w_law03_whole }
theorem law_JsonAny (s : ByteArray) {σ : Heap} {e : Bool} (hw : PowOK true e σ) : ∃ σ1, CallOK Tryd.prog T 7 [tStr.av s] σ (tBool.av true) σ1 := by
  have hK := K_law03_JsonAny c_JsonAny ok_law03_fit ok_json_Quote ok_json_Unquote ok_law03_whole
  have p1 : c_JsonAny.law03_fit = w_law03_fit := rfl
  have p2 : c_JsonAny.json_Quote = w_json_Quote := rfl
  have p3 : c_JsonAny.json_Unquote = w_json_Unquote := rfl
  have p4 : c_JsonAny.law03_whole = w_law03_whole := rfl
  obtain ⟨l, rfl⟩ : ∃ l, s = ba l := ⟨_, ba_self s⟩
  have go : ∃ σ1, callC (R := AVal × Heap) T (O_law03_JsonAny c_JsonAny) 100000 2 7 [.str (ba l)] σ (fun v σ => some (v, σ)) = some (.bool true, σ1) := by
    rw [law03_JsonAny_eq, p1, p2, p3, p4, w_law03_fit_eq hw.ga, Option.bind_some]
    dsimp only
    rw [Bool.not_true, cond_false, ba_size]
    by_cases h1 : l.length ≤ 300
    · rw [show decide ((l.length : Int) > 300) = false by simp; omega, cond_false]
      rw [w_json_Unquote_eq hw.gu (by rw [ba_size]; omega), Option.bind_some]
      unfold unqV
      rw [ba_data]
      cases hu : unqL l with
      | none =>
        dsimp only
        rw [Bool.not_false, cond_true, ba_nil, beq_self_eq_true, cond_true]
        exact ⟨_, rfl⟩
      | some q =>
        obtain ⟨t, r⟩ := q
        obtain ⟨hv, hq⟩ := unqL_sound hu
        have hlen := congrArg List.length hq
        rw [List.length_append] at hlen
        have ht : t.length ≤ l.length := by
          have h1 := congrArg List.length (wholeL_valid hv)
          have : (wholeL t).length ≤ (quoteL t).length := by
            unfold wholeL quoteL
            rw [List.length_cons, List.length_append]
            have : ∀ ns : List Nat, (ns.flatMap encB).length ≤ (ns.flatMap signB).length := fun ns => by
              induction ns with
              | nil => simp
              | cons n ns ih =>
                rw [List.flatMap_cons, List.flatMap_cons, List.length_append, List.length_append]
                have : (encB n).length ≤ (signB n).length := by
                  unfold signB
                  split
                  · rw [enc1 (by omega)]; simp
                  · split
                    · rw [enc1 (by omega)]; simp
                    · split
                      · rw [enc1 (by omega)]; simp
                      · split
                        · rw [enc1 (by omega)]; simp
                        · exact Nat.le_refl _
                omega
            have := this (runesOf t)
            omega
          omega
        dsimp only
        rw [Bool.not_true, cond_false, w_json_Quote_eq (by rw [ba_size]; omega), Option.bind_some, quoteB_L, ba_data]
        dsimp only
        rw [ba_size, ba_size, if_pos (by omega), ba_append, hq, beq_self_eq_true, cond_true, w_law03_whole_eq (by rw [ba_size]; omega), Option.bind_some, ba_data, wholeL_valid hv]
        dsimp only
        rw [beq_self_eq_true]
        exact ⟨_, rfl⟩
    · rw [show decide ((l.length : Int) > 300) = true by simp; omega, cond_true]
      exact ⟨_, rfl⟩
  obtain ⟨σ1, h⟩ := go
  exact ⟨σ1, call_ok ok hK h⟩
end Go.Abs.TB
