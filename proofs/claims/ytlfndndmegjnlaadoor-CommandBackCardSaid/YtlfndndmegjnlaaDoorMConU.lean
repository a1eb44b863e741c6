/-
What is printed is parsed as it was, plain.
CommandBack answers true.
-/
import Derived.Test.YtlfndndmegjnlaaDoorMConS
import Derived.Test.YtlfndndmegjnlaaDoorEqD5
namespace Go.Abs.TD
open Go Go.Abs Go.Proofs Go.RowKit

theorem find_word {k : Nat} (h : k < 18) : findW (wordsL.getD k []) wordsL 0 = some k := by
  match k, h with
  | 0, _ | 1, _ | 2, _ | 3, _ | 4, _ | 5, _ | 6, _ | 7, _ | 8, _ | 9, _ | 10, _ | 11, _ | 12, _ | 13, _ | 14, _ | 15, _ | 16, _ | 17, _ => decide
  | k + 18, h => omega
theorem parse_behind (n : Nat) {k : Nat} (h : k < 18) (r : List UInt8) : parseV (n + 1) (wordsL.getD k [] ++ 32 :: r) = told (fillV (parseV n) k r true) := by
  unfold parseV
  rw [cutB_at 32 _ r (words_free h)]
  simp only
  rw [find_word h]
  rfl
theorem parse_word (n : Nat) {k : Nat} (h : k < 18) : parseV (n + 1) (wordsL.getD k []) = told (fillV (parseV n) k [] false) := by
  unfold parseV
  rw [cutB_no 32 _ (words_free h)]
  simp only
  rw [find_word h]
  rfl
theorem told_ok (c : Cmd) : told (0, c) = (c, 0) := rfl
/-- A command that the document knows. -/
inductive Known1 (pv : List UInt8 → Cmd × Int) : Nat → Cmd → Prop where
  | none (k : Nat) (h : k < 18) (hn : noarg k = true) : Known1 pv k (zc k)
  | num (k u : Nat) (h : k = 3 ∨ k = 5 ∨ k = 14) (hu : u < 9223372036854775808) : Known1 pv k ⟨k, u, 0, ba []⟩
  | two (k u v : Nat) (h : k = 7 ∨ k = 13) (hu : u < 9223372036854775808) (hv : v < 9223372036854775808) : Known1 pv k ⟨k, u, v, ba []⟩
  | text (k : Nat) (t : List UInt8) (h : k = 4 ∨ k = 6) (ht : t.length ≤ 40) : Known1 pv k ⟨k, 0, 0, ba t⟩
  | bind (c : UInt8) (t : List UInt8) (hc : keyV [c] = true) (ht : t.length ≤ 40) (h0 : (pv t).2 = 0) (h1 : (pv t).1.Kind < 16) : Known1 pv 16 ⟨16, (c.toNat : Int), 0, ba t⟩
  | unbind (c : UInt8) (hc : keyV [c] = true) : Known1 pv 17 ⟨17, (c.toNat : Int), 0, ba []⟩
theorem num_dec {u : Nat} (h : u < 9223372036854775808) : numV (Lib.decDigits u) = ((u : Int), true) := by
  unfold numV
  rw [numD_dec h]
theorem dec_free (u : Nat) : (47 : UInt8) ∉ Lib.decDigits u := fun h => by
  have := (dec_digits u).1 47 h
  cases this
theorem key_ne {c : UInt8} (h : keyV [c] = true) : (32 : UInt8) ∉ [c] := fun h2 => by
  simp only [List.mem_singleton] at h2
  subst h2
  cases h
theorem back_law (n : Nat) {k : Nat} {c : Cmd} (h : Known1 (parseV n) k c) : parseV (n + 1) (printV k c.N c.M c.Text.data.toList) = (c, 0) := by
  cases h with
  | none _ h hn =>
    have e : printV k (zc k).N (zc k).M (zc k).Text.data.toList = wordsL.getD k [] := (good_none k h hn).same
    rw [e, parse_word n h, fill_none _ k h, if_pos hn]
  | num _ u h hu =>
    simp only
    unfold printV
    rw [if_pos h, Lib.itoa_nonneg]
    have h18 : k < 18 := by omega
    have := parse_behind n h18 (Lib.decDigits u)
    rw [show ([32] ++ Lib.decDigits u) = 32 :: Lib.decDigits u from rfl, this]
    unfold fillV
    rw [if_pos h, num_dec hu]
    rfl
  | two _ u v h hu hv =>
    simp only
    unfold printV
    have h1 : ¬ (k = 3 ∨ k = 5 ∨ k = 14) := by omega
    rw [if_neg h1, if_pos h, Lib.itoa_nonneg, Lib.itoa_nonneg]
    have h18 : k < 18 := by omega
    have := parse_behind n h18 (Lib.decDigits u ++ 47 :: Lib.decDigits v)
    rw [show ((([32] ++ Lib.decDigits u) ++ [47]) ++ Lib.decDigits v) = 32 :: (Lib.decDigits u ++ 47 :: Lib.decDigits v) by simp, this]
    unfold fillV pairV
    rw [if_neg h1, if_pos h, cutB_at 47 _ _ (dec_free u)]
    simp only
    rw [num_dec hu, num_dec hv]
    rfl
  | text _ t h ht =>
    simp only [ba_data]
    unfold printV
    have h1 : ¬ (k = 3 ∨ k = 5 ∨ k = 14) := by omega
    have h2 : ¬ (k = 7 ∨ k = 13) := by omega
    rw [if_neg h1, if_neg h2, if_pos h]
    have h18 : k < 18 := by omega
    rw [show ([32] ++ t) = 32 :: t from rfl, parse_behind n h18 t]
    unfold fillV
    rw [if_neg h1, if_neg h2, if_pos h, if_neg (by omega)]
    rfl
  | bind c t hc ht h0 h1 =>
    simp only [ba_data]
    have e : printV 16 (c.toNat : Int) 0 t = wordsL.getD 16 [] ++ 32 :: ([c] ++ 32 :: t) := by
      unfold printV
      rw [if_neg (by decide), if_neg (by decide), if_neg (by decide), if_pos rfl, byteV_u8]
      simp
    rw [e, parse_behind n (by decide)]
    have hb : fillV (parseV n) 16 ([c] ++ 32 :: t) true = boundV (parseV n) ((16 : Nat) : Int) ([c] ++ 32 :: t) := rfl
    rw [hb]
    unfold boundV
    rw [cutB_at 32 [c] t (key_ne hc)]
    simp only
    rw [if_neg (by rw [hc]; decide), if_neg (by decide), if_neg (by omega), if_neg (by rw [h0]; decide), if_neg (by omega)]
    rfl
  | unbind c hc =>
    simp only
    have e : ∀ t, printV 17 (c.toNat : Int) 0 t = wordsL.getD 17 [] ++ 32 :: [c] := fun t => by
      unfold printV
      rw [if_neg (by decide), if_neg (by decide), if_neg (by decide), if_neg (by decide), if_pos rfl, byteV_u8]
      simp
    rw [e, parse_behind n (by decide)]
    have hb : fillV (parseV n) 17 [c] true = (if keyV [c] = true then (0, ⟨((17 : Nat) : Int), (([c] : List UInt8).getD 0 0).toNat, 0, ba []⟩) else (1, zc ((17 : Nat) : Int))) := rfl
    rw [hb, if_pos hc]
    rfl
/-- 'mark ..' is a command. -/
theorem mark_ok (n : Nat) {t : List UInt8} (h : t.length ≤ 40) : parseV (n + 1) ([109, 97, 114, 107, 32] ++ t) = (⟨4, 0, 0, ba t⟩, 0) := by
  have := back_law n (.text 4 t (.inl rfl) h)
  simp only [ba_data] at this
  exact this
end Go.Abs.TD
namespace Go.Abs.TD
open Go Go.Abs Go.Proofs Go.RowKit

theorem mask63 (x : Int) : ∃ u : Nat, u < 9223372036854775808 ∧ IntKind.i64.wrap ((BitVec.ofInt IntKind.i64.bits x &&& BitVec.ofInt IntKind.i64.bits 9223372036854775807).toNat : Int) = (u : Int) := by
  have h : (BitVec.ofInt IntKind.i64.bits x &&& BitVec.ofInt IntKind.i64.bits 9223372036854775807).toNat ≤ 9223372036854775807 := by
    rw [BitVec.toNat_and]
    exact Nat.and_le_right
  exact ⟨_, by omega, wrap_nat (by omega)⟩
theorem mask16 (x : Int) : ∃ u : Nat, u < 65536 ∧ IntKind.i64.wrap ((BitVec.ofInt IntKind.i64.bits x &&& BitVec.ofInt IntKind.i64.bits 65535).toNat : Int) = (u : Int) := by
  have h : (BitVec.ofInt IntKind.i64.bits x &&& BitVec.ofInt IntKind.i64.bits 65535).toNat ≤ 65535 := by
    rw [BitVec.toNat_and]
    exact Nat.and_le_right
  exact ⟨_, by omega, wrap_nat (by omega)⟩
theorem kind18 (x : Int) : ∃ k : Nat, k < 18 ∧ Int.tmod (IntKind.i64.wrap ((BitVec.ofInt IntKind.i64.bits x &&& BitVec.ofInt IntKind.i64.bits 65535).toNat : Int)) 18 = (k : Int) := by
  obtain ⟨u, _, e⟩ := mask16 x
  rw [e]
  exact ⟨u % 18, Nat.mod_lt _ (by decide), rfl⟩
theorem key94 (x : Int) : ∃ c : UInt8, keyV [c] = true ∧ IntKind.i64.wrap (33 + Int.tmod (IntKind.i64.wrap ((BitVec.ofInt IntKind.i64.bits x &&& BitVec.ofInt IntKind.i64.bits 65535).toNat : Int)) 94) = (c.toNat : Int) := by
  obtain ⟨u, _, e⟩ := mask16 x
  rw [e, show Int.tmod (u : Int) 94 = ((u % 94 : Nat) : Int) from rfl]
  have h := Nat.mod_lt u (show 0 < 94 by decide)
  generalize u % 94 = j at h
  have hc : (UInt8.ofNat (33 + j)).toNat = 33 + j := by simp; omega
  refine ⟨UInt8.ofNat (33 + j), ?_, ?_⟩
  · simp only [keyV, Bool.and_eq_true, decide_eq_true_eq]
    omega
  · rw [hc, show (33 : Int) + (j : Int) = ((33 + j : Nat) : Int) by omega, wrap_nat (by omega)]
noncomputable def c_CommandBack : C_law21_CommandBack := { law21_fit := w_law21_fit, command_Parse := w_command_Parse 1000, command_Print := w_command_Print }
theorem printV_len {k : Nat} (h : k < 18) {n m : Int} (hn : I64 n) (hm : I64 m) (t : List UInt8) : (printV k n m t).length ≤ 60 + t.length := by
  have hw := words_len h
  have h1 := itoa_small hn
  have h2 := itoa_small hm
  unfold printV
  split
  · simp only [List.length_append, List.length_cons, List.length_nil]; omega
  · split
    · simp only [List.length_append, List.length_cons, List.length_nil]; omega
    · split
      · simp only [List.length_append, List.length_cons, List.length_nil]; omega
      · split
        · simp only [List.length_append, List.length_cons, List.length_nil]; omega
        · split
          · simp only [List.length_append, List.length_cons, List.length_nil]; omega
          · omega
/-- One command goes round. -/
theorem round {σ : Heap} (hG : GC σ) {k : Nat} {c : Cmd} (h : Known1 (parseV 999) k c) (h18 : k < 18) (hk : c.Kind = (k : Int)) (hn : I64 c.N) (hm : I64 c.M) (ht : c.Text.size ≤ 100) :
    ((w_command_Print c σ).bind fun q => (w_command_Parse 1000 q.1 q.2).bind fun q' => bif (q'.1.2 == 0) then (some (AVal.bool (((q'.1.1.Kind : Int) == c.Kind) && (((q'.1.1.N : Int) == c.N) && (((q'.1.1.M : Int) == c.M) && ((q'.1.1.Text.toList == c.Text.toList) && true)))), q'.2)) else some (AVal.bool false, q'.2)) = some (AVal.bool true, σ) := by
  have hl := printV_len h18 hn hm c.Text.data.toList
  have hs : c.Text.data.toList.length = c.Text.size := Array.length_toList
  rw [w_command_Print_eq ⟨hG, hk, h18, hn, hm, by omega⟩, Option.bind_some]
  simp only
  rw [w_command_Parse_eq hG (by omega) (by omega), Option.bind_some, back_law 999 h]
  have e : ((c.Kind == c.Kind) && ((c.N == c.N) && ((c.M == c.M) && ((c.Text.toList == c.Text.toList) && true)))) = true := by
    rw [beq_self_eq_true c.Kind, beq_self_eq_true c.N, beq_self_eq_true c.M, beq_self_eq_true c.Text.toList]; rfl
  show (bif ((0 : Int) == 0) then some (AVal.bool ((c.Kind == c.Kind) && ((c.N == c.N) && ((c.M == c.M) && ((c.Text.toList == c.Text.toList) && true)))), σ) else _) = _
  rw [e]
  rfl
theorem law_CommandBack (kind : Int) (ns : Arr_2_Int) (s : ByteArray) {σ : Heap} (hG : GC σ) : ∃ σ1, CallOK Tryd.prog T 6 [(tInt .i64).av kind, t_Arr_2_Int.av ns, tStr.av s] σ (tBool.av true) σ1 := by
  obtain ⟨l, rfl⟩ : ∃ l, s = ba l := ⟨_, ba_self s⟩
  refine ⟨σ, call_ok ok (K_law21_CommandBack c_CommandBack ok_law21_fit (ok_command_Parse 1000) ok_command_Print) (L := 0) (n := 2) ((law21_CommandBack_eq c_CommandBack 0 kind ns (ba l) σ _).trans ?_)⟩
  have p1 : c_CommandBack.law21_fit = w_law21_fit := rfl
  have p2 : c_CommandBack.command_Parse = w_command_Parse 1000 := rfl
  have p3 : c_CommandBack.command_Print = w_command_Print := rfl
  rw [p1, p2, p3, w_law21_fit_eq hG, Option.bind_some, ba_size]
  obtain ⟨k, h18, hk⟩ := kind18 kind
  obtain ⟨u, hu, hu'⟩ := mask63 ns.i0
  obtain ⟨v, hv, hv'⟩ := mask63 ns.i1
  obtain ⟨c, hc, hc'⟩ := key94 ns.i0
  rw [hk, hu', hv', hc']
  have hmin : ∀ a : Nat, (if (a : Int) < (l.length : Int) then (a : Int) else (l.length : Int)) = ((min a l.length : Nat) : Int) := fun a => by
    by_cases h : a < l.length
    · rw [if_pos (by omega), Nat.min_eq_left (by omega)]
    · rw [if_neg (by omega), Nat.min_eq_right (by omega)]
  have h40 : (if (40 : Int) < (l.length : Int) then (40 : Int) else (l.length : Int)) = ((min 40 l.length : Nat) : Int) := hmin 40
  have h35 : (if (35 : Int) < (l.length : Int) then (35 : Int) else (l.length : Int)) = ((min 35 l.length : Nat) : Int) := hmin 35
  rw [h40, h35]
  have g : ∀ a : Nat, (decide ((0 : Int) ≤ ((min a l.length : Nat) : Int)) && decide (((min a l.length : Nat) : Int) ≤ (l.length : Int))) = true := fun a => by
    rw [dec0, Bool.true_and, decide_eq_true_eq]
    have := Nat.min_le_right a l.length
    omega
  have l35 : (l.take (min 35 l.length)).length ≤ 35 := by rw [List.length_take]; omega
  have l40 : (l.take (min 40 l.length)).length ≤ 40 := by rw [List.length_take]; omega
  rw [g 40, g 35, Int.toNat_natCast, Int.toNat_natCast, ba_to, ba_to]
  have hmark : (⟨#[109, 97, 114, 107, 32]⟩ : ByteArray) = ba [109, 97, 114, 107, 32] := rfl
  rw [hmark, ba_append, ba_size, ba_size, ba_nil]
  generalize l.take (min 35 l.length) = t35 at l35
  generalize l.take (min 40 l.length) = t40 at l40
  have hsz : ([109, 97, 114, 107, 32] : List UInt8).length + t35.length ≤ 9223372036854775807 := by
    show 5 + t35.length ≤ _
    omega
  have i0 := I64_zero
  have ib : (ba ([] : List UInt8)).size ≤ 100 := by rw [ba_size]; decide
  clear hk hu' hv' hc' h40 h35 hmin g p1 p2 p3
  match k, h18 with
  | 0, _ => exact round hG (.none 0 (by decide) rfl) (by decide) rfl i0 i0 ib
  | 1, _ => exact round hG (.none 1 (by decide) rfl) (by decide) rfl i0 i0 ib
  | 2, _ => exact round hG (.none 2 (by decide) rfl) (by decide) rfl i0 i0 ib
  | 3, _ => exact round hG (.num 3 u (by decide) hu) (by decide) rfl (I64_nat hu) i0 ib
  | 4, _ => exact round hG (.text 4 t40 (by decide) l40) (by decide) rfl i0 i0 (by rw [ba_size]; omega)
  | 5, _ => exact round hG (.num 5 u (by decide) hu) (by decide) rfl (I64_nat hu) i0 ib
  | 6, _ => exact round hG (.text 6 t40 (by decide) l40) (by decide) rfl i0 i0 (by rw [ba_size]; omega)
  | 7, _ => exact round hG (.two 7 u v (by decide) hu hv) (by decide) rfl (I64_nat hu) (I64_nat hv) ib
  | 8, _ => exact round hG (.none 8 (by decide) rfl) (by decide) rfl i0 i0 ib
  | 9, _ => exact round hG (.none 9 (by decide) rfl) (by decide) rfl i0 i0 ib
  | 10, _ => exact round hG (.none 10 (by decide) rfl) (by decide) rfl i0 i0 ib
  | 11, _ => exact round hG (.none 11 (by decide) rfl) (by decide) rfl i0 i0 ib
  | 12, _ => exact round hG (.none 12 (by decide) rfl) (by decide) rfl i0 i0 ib
  | 13, _ => exact round hG (.two 13 u v (by decide) hu hv) (by decide) rfl (I64_nat hu) (I64_nat hv) ib
  | 14, _ => exact round hG (.num 14 u (by decide) hu) (by decide) rfl (I64_nat hu) i0 ib
  | 15, _ => exact round hG (.none 15 (by decide) rfl) (by decide) rfl i0 i0 ib
  | 16, _ =>
    have hlen : ([109, 97, 114, 107, 32] ++ t35).length = 5 + t35.length := by simp; omega
    have hm := mark_ok 998 (t := t35) (by omega)
    refine Eq.trans (if_pos hsz) ?_
    exact round hG (.bind c ([109, 97, 114, 107, 32] ++ t35) hc (by omega) (by rw [hm]) (by rw [hm]; show (4 : Int) < 16; decide)) (by decide) rfl (I64_u8 c) i0 (by rw [ba_size]; omega)
  | 17, _ => exact round hG (.unbind c hc) (by decide) rfl (I64_u8 c) i0 ib
  | k + 18, h => omega
end Go.Abs.TD
