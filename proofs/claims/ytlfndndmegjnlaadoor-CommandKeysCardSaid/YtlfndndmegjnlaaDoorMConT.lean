/-
Tables: what Bind makes, what is bound; contracts of Bind, table, bound.
Contracts of table, bound, the reference's Standard; CommandTables answers true.
-/
import Derived.Test.YtlfndndmegjnlaaDoorMConS
namespace Go.Abs.TD
open Go Go.Abs Go.Proofs Go.RowKit

/-! ### Plain -/
def bindL (key : Int) (text : List UInt8) : Bool → List KT → List KT
  | put, [] => if put = true then [(key, text)] else []
  | put, x :: r => if put = true ∧ x.1 ≥ key then (if x.1 ≠ key then (key, text) :: x :: bindL key text false r else (key, text) :: bindL key text false r)
    else (if x.1 ≠ key then x :: bindL key text put r else bindL key text put r)
def putOf (text : List UInt8) : Bool := !(text == [])
def tabL (xs : List KT) : List KT := xs.foldl (fun t x => bindL x.1 x.2 (putOf x.2) t) stdL
def lastB (key : Int) (xs : List KT) : List UInt8 := xs.foldl (fun a x => if x.1 = key then x.2 else a) (findB key stdL)
/-- The keys rise; all are above b. -/
def Rise : Int → List KT → Prop
  | _, [] => True
  | b, x :: r => b < x.1 ∧ x.2 ≠ [] ∧ Rise x.1 r
theorem Rise.weak {b c : Int} (h : c ≤ b) : ∀ {xs : List KT}, Rise b xs → Rise c xs
  | [], _ => trivial
  | _ :: _, ⟨h1, h2, h3⟩ => ⟨by omega, h2, h3⟩
theorem Rise.miss {key : Int} : ∀ {xs : List KT} {b : Int}, key ≤ b → Rise b xs → findB key xs = []
  | [], _, _, _ => rfl
  | x :: r, b, h, ⟨h1, _, h3⟩ => by
    rw [findB, if_neg (by omega)]
    exact Rise.miss (by omega) h3
theorem bind_out {key : Int} {text : List UInt8} : ∀ {xs : List KT} {b : Int}, Rise b xs → Rise b (bindL key text false xs) ∧ ∀ k, findB k (bindL key text false xs) = if k = key then [] else findB k xs
  | [], b, _ => ⟨trivial, fun k => by simp [bindL, findB]⟩
  | x :: r, b, ⟨h1, h2, h3⟩ => by
    obtain ⟨i1, i2⟩ := bind_out (key := key) (text := text) h3
    rw [bindL, if_neg (by simp)]
    by_cases hx : x.1 ≠ key
    · rw [if_pos hx]
      refine ⟨⟨h1, h2, i1⟩, fun k => ?_⟩
      rw [findB, findB, i2]
      by_cases hk : x.1 = k
      · rw [if_pos hk, if_neg (by omega), if_pos hk]
      · rw [if_neg hk, if_neg hk]
    · rw [if_neg hx]
      refine ⟨Rise.weak (by omega) i1, fun k => ?_⟩
      rw [i2, findB]
      by_cases hk : k = key
      · rw [if_pos hk, if_pos hk]
      · rw [if_neg hk, if_neg hk, if_neg (by omega)]
theorem bind_in {key : Int} {text : List UInt8} (ht : text ≠ []) : ∀ {xs : List KT} {b : Int}, b < key → Rise b xs → Rise b (bindL key text true xs) ∧ ∀ k, findB k (bindL key text true xs) = if k = key then text else findB k xs
  | [], b, hb, _ => ⟨⟨hb, ht, trivial⟩, fun k => by
      rw [bindL, if_pos rfl, findB, findB]
      by_cases hk : k = key
      · rw [if_pos hk.symm, if_pos hk]
      · rw [if_neg (fun e => hk e.symm), if_neg hk]; rfl⟩
  | x :: r, b, hb, ⟨h1, h2, h3⟩ => by
    rw [bindL]
    by_cases hg : x.1 ≥ key
    · rw [if_pos ⟨rfl, hg⟩]
      obtain ⟨i1, i2⟩ := bind_out (key := key) (text := text) h3
      by_cases hx : x.1 ≠ key
      · rw [if_pos hx]
        refine ⟨⟨hb, ht, by omega, h2, i1⟩, fun k => ?_⟩
        rw [findB, findB, i2]
        by_cases hk : k = key
        · rw [if_pos hk.symm, if_pos hk]
        · rw [if_neg (fun e => hk e.symm), if_neg hk, if_neg hk, findB]
      · rw [if_neg hx]
        have he : x.1 = key := by omega
        refine ⟨⟨hb, ht, by rw [← he]; exact i1.weak (Int.le_refl _) |> fun h => by rw [he] at h ⊢; exact h⟩, fun k => ?_⟩
        rw [findB, i2]
        by_cases hk : k = key
        · rw [if_pos hk.symm, if_pos hk]
        · rw [if_neg (fun e => hk e.symm), if_neg hk, if_neg hk, findB, if_neg (by omega)]
    · rw [if_neg (fun h => hg h.2), if_pos (by omega)]
      obtain ⟨i1, i2⟩ := bind_in (key := key) ht (show x.1 < key by omega) h3
      refine ⟨⟨h1, h2, i1⟩, fun k => ?_⟩
      rw [findB, i2, findB]
      by_cases hk : x.1 = k
      · rw [if_pos hk, if_neg (by omega), if_pos hk]
      · rw [if_neg hk, if_neg hk]
theorem bind_law {key : Int} {text : List UInt8} {xs : List KT} {b : Int} (hb : b < key) (h : Rise b xs) : Rise b (bindL key text (putOf text) xs) ∧ ∀ k, findB k (bindL key text (putOf text) xs) = if k = key then text else findB k xs := by
  unfold putOf
  by_cases ht : text = []
  · subst ht
    exact bind_out h
  · rw [show (!(text == [])) = true by rw [Bool.not_eq_true', beq_eq_false_iff_ne]; exact ht]
    exact bind_in ht hb h
theorem tab_law (key : Int) : ∀ (xs : List KT) (t : List KT) (a : List UInt8), (∀ x ∈ xs, 0 ≤ x.1) → Rise (-1) t → findB key t = a →
    Rise (-1) (xs.foldl (fun t x => bindL x.1 x.2 (putOf x.2) t) t) ∧ findB key (xs.foldl (fun t x => bindL x.1 x.2 (putOf x.2) t) t) = xs.foldl (fun a x => if x.1 = key then x.2 else a) a
  | [], t, a, _, h1, h2 => ⟨h1, h2⟩
  | x :: xs, t, a, h0, h1, h2 => by
    obtain ⟨i1, i2⟩ := bind_law (key := x.1) (text := x.2) (show (-1 : Int) < x.1 by have := h0 x (by simp); omega) h1
    rw [List.foldl_cons, List.foldl_cons]
    refine tab_law key xs _ _ (fun y hy => h0 y (by simp [hy])) i1 ?_
    rw [i2, h2]
    by_cases hk : x.1 = key
    · rw [if_pos hk, if_pos hk.symm]
    · rw [if_neg hk, if_neg (fun e => hk e.symm)]
theorem std_rise : Rise (-1) stdL := by simp [stdL, headL, focusL, tailL, Rise, List.range, List.range.loop]
theorem tab_rise {xs : List KT} (h : ∀ x ∈ xs, 0 ≤ x.1) : Rise (-1) (tabL xs) := (tab_law 0 xs stdL _ h std_rise rfl).1
theorem tab_find {xs : List KT} (h : ∀ x ∈ xs, 0 ≤ x.1) (key : Int) : findB key (tabL xs) = lastB key xs := (tab_law key xs stdL _ h std_rise rfl).2
theorem bindL_len (key : Int) (text : List UInt8) : ∀ (put : Bool) (xs : List KT), (bindL key text put xs).length ≤ xs.length + (if put = true then 1 else 0)
  | put, [] => by cases put <;> simp [bindL]
  | put, x :: r => by
    have h1 := bindL_len key text false r
    have h2 := bindL_len key text put r
    rw [bindL]
    split
    · rename_i hc
      rw [if_pos hc.1]
      split <;> simp at h1 ⊢ <;> omega
    · split <;> simp at h2 ⊢ <;> omega
theorem tab_len : ∀ (xs : List KT) (t : List KT), (xs.foldl (fun t x => bindL x.1 x.2 (putOf x.2) t) t).length ≤ t.length + xs.length
  | [], t => by simp
  | x :: xs, t => by
    rw [List.foldl_cons]
    have h1 := tab_len xs (bindL x.1 x.2 (putOf x.2) t)
    have h2 := bindL_len x.1 x.2 (putOf x.2) t
    have : (if putOf x.2 = true then 1 else 0) ≤ 1 := by split <;> omega
    rw [List.length_cons]
    omega
/-! ### Bind -/
theorem Bind_loop {L : Nat} {t : Sl} {σ0 : Heap} {xs : List KT} {key : Int} {text : List UInt8} (hx : t.Is eKT σ0 xs) (hs : xs.length ≤ 10000) : ∀ (j i m : Nat) (out : Sl) (put : Bool) (σ : Heap) (ys : List KT), i + j = xs.length → j < m → ys.length ≤ 2 * i →
    Mine eKT σ0 out σ ys → (ys = [] → out.b = none) →
    ∃ (q : Sl) (σ1 : Heap), command_Table_Bind_L4 (R := AVal × Heap) L m key (ba text) out put t (i : Int) σ (fun v σ => some (v, σ)) = some (.slice q.b q.o q.n 2, σ1) ∧ Mine eKT σ0 q σ1 (ys ++ bindL key text put (xs.drop i)) ∧ (ys ++ bindL key text put (xs.drop i) = [] → q.b = none)
  | j, i, 0, out, put, σ, ys, _, h, _, _, _ => by omega
  | 0, i, m + 1, out, put, σ, ys, hi, _, hl, hm, hnil => by
    have hn := hx.n
    rw [command_Table_Bind_L4_eq, hn, lt_false (by omega), cond_false, List.drop_of_length_le (by omega)]
    cases put with
    | false => exact ⟨out, σ, rfl, by simpa [bindL] using hm, by simpa [bindL] using hnil⟩
    | true =>
      obtain ⟨q, σ1, h1, h2⟩ := hm.append (zs := [(key, text)]) (bytes := 24) (vs := eKT.all [(key, text)]) (k := 1) rfl rfl (by simp; omega) (by simp; omega)
      have h1' : Heap.append σ out.b out.o out.n 2 24 [.int .u8 key, .str (ba text)] 1 = some (q, σ1) := h1
      rw [cond_true, h1', Option.bind_some]
      exact ⟨⟨q.1, q.2.1, q.2.2⟩, σ1, rfl, h2, fun h => by simp [bindL] at h⟩
  | j + 1, i, m + 1, out, put, σ, ys, hi, hm', hl, hm, hnil => by
    have hn := hx.n
    have hlt : i < xs.length := by omega
    obtain ⟨b, hb, c1, c2⟩ := kt_cells (hx.pre hm.pre) (i := i) (x := xs[i]) (List.getElem?_eq_getElem hlt)
    rw [command_Table_Bind_L4_eq, hn, lt_true hlt, cond_true, dec0, Bool.true_and, cond_true, hb, Option.bind_some, Int.toNat_natCast, c1, Option.bind_some, c2, Option.bind_some, List.drop_eq_getElem_cons hlt, wrap_i64_succ i (by omega), bindL]
    generalize xs[i] = x
    have app : ∀ (out : Sl) (σ : Heap) (ys : List KT) (z : KT), ys.length ≤ 2 * i + 1 → Mine eKT σ0 out σ ys → ∃ q σ1, Heap.append σ out.b out.o out.n 2 24 [.int .u8 z.1, .str (ba z.2)] 1 = some (q, σ1) ∧ Mine eKT σ0 ⟨q.1, q.2.1, q.2.2⟩ σ1 (ys ++ [z]) := fun out σ ys z hl hm => by
      obtain ⟨q, σ1, h1, h2⟩ := hm.append (zs := [z]) (bytes := 24) (vs := eKT.all [z]) (k := 1) rfl rfl (by simp; omega) (by simp; omega)
      exact ⟨q, σ1, h1, h2⟩
    have keep : ∀ (put : Bool), (∃ (q : Sl) (σ1 : Heap), (bif (x.1 != key) then (
            (Heap.append σ out.b out.o out.n 2 24 [.int .u8 x.1, .str (ba x.2)] 1).bind fun q9 =>
            command_Table_Bind_L4 (R := AVal × Heap) L m key (ba text) ⟨q9.1.1, q9.1.2.1, q9.1.2.2⟩ put t ((i + 1 : Nat) : Int) q9.2 (fun v σ => some (v, σ)))
          else command_Table_Bind_L4 (R := AVal × Heap) L m key (ba text) out put t ((i + 1 : Nat) : Int) σ (fun v σ => some (v, σ))) = some (.slice q.b q.o q.n 2, σ1) ∧
          Mine eKT σ0 q σ1 (ys ++ (if x.1 ≠ key then x :: bindL key text put (xs.drop (i + 1)) else bindL key text put (xs.drop (i + 1)))) ∧
          (ys ++ (if x.1 ≠ key then x :: bindL key text put (xs.drop (i + 1)) else bindL key text put (xs.drop (i + 1))) = [] → q.b = none)) := fun put => by
      by_cases hk : x.1 ≠ key
      · obtain ⟨q, σ1, h1, h2⟩ := app out σ ys x (by omega) hm
        rw [if_pos hk, show (x.1 != key) = true by rw [bne_iff_ne]; exact hk, cond_true, h1, Option.bind_some]
        have := Bind_loop hx hs j (i + 1) m ⟨q.1, q.2.1, q.2.2⟩ put σ1 (ys ++ [x]) (by omega) (by omega) (by simp; omega) h2 (fun h => by simp at h) (L := L) (key := key) (text := text)
        simpa using this
      · rw [if_neg hk, show (x.1 != key) = false by simpa using hk, cond_false]
        exact Bind_loop hx hs j (i + 1) m out put σ ys (by omega) (by omega) (by omega) hm hnil
    cases put with
    | false =>
      rw [cond_false, if_neg (by simp)]
      exact keep false
    | true =>
      rw [cond_true]
      by_cases hg : x.1 ≥ key
      · rw [decide_eq_true hg, cond_true, if_pos ⟨rfl, hg⟩]
        obtain ⟨q, σ1, h1, h2⟩ := app out σ ys (key, text) (by omega) hm
        rw [h1, Option.bind_some]
        by_cases hk : x.1 ≠ key
        · obtain ⟨q2, σ2, h3, h4⟩ := app ⟨q.1, q.2.1, q.2.2⟩ σ1 (ys ++ [(key, text)]) x (by simp; omega) h2
          rw [if_pos hk, show (x.1 != key) = true by rw [bne_iff_ne]; exact hk, cond_true]
          simp only at h3 ⊢
          rw [h3, Option.bind_some]
          have := Bind_loop hx hs j (i + 1) m ⟨q2.1, q2.2.1, q2.2.2⟩ false σ2 (ys ++ [(key, text)] ++ [x]) (by omega) (by omega) (by simp; omega) h4 (fun h => by simp at h) (L := L) (key := key) (text := text)
          simpa using this
        · rw [if_neg hk, show (x.1 != key) = false by simpa using hk, cond_false]
          have := Bind_loop hx hs j (i + 1) m ⟨q.1, q.2.1, q.2.2⟩ false σ1 (ys ++ [(key, text)]) (by omega) (by omega) (by simp; omega) h2 (fun h => by simp at h) (L := L) (key := key) (text := text)
          simpa using this
      · rw [decide_eq_false hg, cond_false, if_neg (fun h => hg h.2)]
        exact keep true
def bindR (key : Int) (text : List UInt8) (xs : List KT) : List KT := bindL key text (putOf text) xs
noncomputable def w_command_Table_Bind (t : Sl) (key : Int) (text : ByteArray) (σ : Heap) : Option (Sl × Heap) :=
  wOf (fun xs : List KT => t.Is eKT σ xs ∧ xs.length ≤ 10000) fun xs => fresh eKT σ (decide (bindR key text.data.toList xs = [])) (bindR key text.data.toList xs)
theorem w_command_Table_Bind_eq {t : Sl} {key : Int} {text : List UInt8} {σ : Heap} {xs : List KT} (h : t.Is eKT σ xs) (hs : xs.length ≤ 10000) : w_command_Table_Bind t key (ba text) σ = some (fresh eKT σ (decide (bindR key text xs = [])) (bindR key text xs)) := by
  have := wOf_eq (P := fun xs : List KT => t.Is eKT σ xs ∧ xs.length ≤ 10000) (f := fun xs => fresh eKT σ (decide (bindR key (ba text).data.toList xs = [])) (bindR key (ba text).data.toList xs)) (x := xs) ⟨h, hs⟩ fun ys hy => by rw [h.uniq (by decide) hy.1]
  rw [ba_data] at this
  exact this
theorem ok_command_Table_Bind : Ok_command_Table_Bind w_command_Table_Bind := fun t key text σ v σ' h => by
  obtain ⟨xs, ⟨hx, hs⟩, e⟩ := wOf_some h
  obtain ⟨l, rfl⟩ : ∃ l, text = ba l := ⟨_, ba_self text⟩
  rw [ba_data] at e
  obtain ⟨q, σ1, h1, h2, h3⟩ := Bind_loop (L := xs.length + 1) (key := key) (text := l) hx hs xs.length 0 (xs.length + 1) ⟨none, 0, 0⟩ (putOf l) σ [] (by omega) (by omega) (by simp) (Mine.start σ) (fun _ => rfl)
  have hn : decide (bindR key l xs = []) = q.b.isNone := by
    by_cases hb : bindR key l xs = []
    · rw [decide_eq_true hb, h3 hb]; rfl
    · rw [decide_eq_false hb, Own.some_of_ne h2.own hb]
  have := call_mine (call_ok ok known0_ok (L := xs.length + 1) (n := 2) ((command_Table_Bind_eq (xs.length + 1) t key (ba l) σ _).trans (by
    rw [ba_toList, ba_nil, ba_toList]
    exact h1))) h2 hn
  rw [show (fresh eKT σ (decide (bindR key l xs = [])) ([] ++ bindL key l (putOf l) (xs.drop 0))) = (v, σ') from e] at this
  exact this
end Go.Abs.TD
namespace Go.Abs.TD
open Go Go.Abs Go.Proofs Go.RowKit

/-! ### The reference's Standard -/
theorem std_keys : ∀ x ∈ stdL, x.1 = 37 ∨ x.1 = 34 ∨ x.1 = 120 ∨ x.1 = 109 ∨ x.1 = 114 ∨ x.1 = 112 ∨ x.1 = 32 ∨ x.1 = 46 ∨ x.1 = 108 ∨ (48 ≤ x.1 ∧ x.1 ≤ 57) := by decide
theorem find_none {key : Int} : ∀ {xs : List KT}, (∀ x ∈ xs, x.1 ≠ key) → findB key xs = []
  | [], _ => rfl
  | x :: r, h => by
    rw [findB, if_neg (h x (by simp))]
    exact find_none fun y hy => h y (by simp [hy])
theorem std_focus : ∀ j : Fin 10, findB ((48 + j.val : Nat) : Int) stdL = [102, 111, 99, 117, 115, 32] ++ [UInt8.ofNat (48 + j.val)] := by decide
def w_ref21_Standard (key : Int) (σ : Heap) : Option (ByteArray × Heap) := some (ba (findB key stdL), σ)
theorem ok_ref21_Standard : Ok_ref21_Standard w_ref21_Standard := fun key σ v σ' h => by
  injection h with e
  injection e with e1 e2
  subst e1; subst e2
  have key' : ∃ σ1, callC (R := AVal × Heap) T known0 0 2 23 [.int .u8 key] σ (fun v σ => some (v, σ)) = some (.str (ba (findB key stdL)), σ1) ∧ ∀ b, b < σ.length → σ1[b]? = σ[b]? := by
    rw [ref21_Standard_eq]
    by_cases h1 : key = 37
    · subst h1; exact ⟨σ, rfl, fun _ _ => rfl⟩
    by_cases h2 : key = 34
    · subst h2; exact ⟨σ, rfl, fun _ _ => rfl⟩
    by_cases h3 : key = 120
    · subst h3; exact ⟨σ, rfl, fun _ _ => rfl⟩
    by_cases h4 : key = 109
    · subst h4; exact ⟨σ, rfl, fun _ _ => rfl⟩
    by_cases h5 : key = 114
    · subst h5; exact ⟨σ, rfl, fun _ _ => rfl⟩
    by_cases h6 : key = 112
    · subst h6; exact ⟨σ, rfl, fun _ _ => rfl⟩
    by_cases h7 : key = 32
    · subst h7; exact ⟨σ, rfl, fun _ _ => rfl⟩
    by_cases h8 : key = 46
    · subst h8; exact ⟨σ, rfl, fun _ _ => rfl⟩
    by_cases h9 : key = 108
    · subst h9; exact ⟨σ, rfl, fun _ _ => rfl⟩
    have ne : ∀ c : Int, ¬ key = c → (key == c) = false := fun c h => by rw [beq_eq_false_iff_ne]; exact h
    rw [ne _ h1, ne _ h2, ne _ h3, ne _ h4, ne _ h5, ne _ h6, ne _ h7, ne _ h8, ne _ h9]
    simp only [cond_false]
    by_cases hlo : 48 ≤ key
    · by_cases hhi : key ≤ 57
      · obtain ⟨j, hj, rfl⟩ : ∃ j : Nat, j < 10 ∧ key = ((48 + j : Nat) : Int) := ⟨(key - 48).toNat, by omega, by omega⟩
        refine ⟨σ ++ [.row [.int .u8 ((48 + j : Nat) : Int)] .rw], ?_, fun b hb => List.getElem?_append_left hb⟩
        have hb : bytesOf [AVal.int .u8 ((48 + j : Nat) : Int)] = some [UInt8.ofNat (48 + j)] := by
          show some [UInt8.ofNat (((48 + j : Nat) : Int)).toNat] = _
          rw [Int.toNat_natCast]
        rw [decide_eq_true (show ((48 + j : Nat) : Int) ≥ 48 from hlo), cond_true, decide_eq_true hhi, cond_true]
        simp only [alloc]
        rw [read_new (cs := [AVal.int .u8 ((48 + j : Nat) : Int)]) (k := 1) rfl, Option.bind_some, hb, Option.bind_some, std_focus ⟨j, hj⟩,
          show (⟨[UInt8.ofNat (48 + j)].toArray⟩ : ByteArray) = ba [UInt8.ofNat (48 + j)] from rfl, show (⟨#[102, 111, 99, 117, 115, 32]⟩ : ByteArray) = ba [102, 111, 99, 117, 115, 32] from rfl, ba_append, ba_size, ba_size, if_pos (by simp)]
      · rw [decide_eq_true (show key ≥ 48 from hlo), cond_true, decide_eq_false hhi, cond_false, find_none fun x hx => by have := std_keys x hx; omega]
        exact ⟨σ, rfl, fun _ _ => rfl⟩
    · rw [decide_eq_false (show ¬ key ≥ 48 from hlo), cond_false, find_none fun x hx => by have := std_keys x hx; omega]
      exact ⟨σ, rfl, fun _ _ => rfl⟩
  obtain ⟨σ1, h1, h2⟩ := key'
  exact call_gc0 (call_ok ok known0_ok h1) h2 trivial
/-! ### bound -/
noncomputable def c_law21_bound : C_law21_bound := { ref21_Standard := w_ref21_Standard }
theorem lastB_snoc {key : Int} {xs : List KT} {i : Nat} (h : i < xs.length) : lastB key (xs.take (i + 1)) = if (xs[i]).1 = key then (xs[i]).2 else lastB key (xs.take i) := by
  unfold lastB
  rw [List.take_add_one, List.getElem?_eq_getElem h, Option.toList_some, List.foldl_append, List.foldl_cons, List.foldl_nil]
theorem bound_loop {L : Nat} {s : Sl} {σ : Heap} {xs : List KT} {key : Int} (h : s.Is eKT σ xs) : ∀ (k m : Nat), k ≤ xs.length → k < m →
    law21_bound_L2 (R := AVal × Heap) c_law21_bound L m s key ((k : Int) - 1) σ (fun v σ => some (v, σ)) = some (.str (ba (lastB key (xs.take k))), σ)
  | k, 0, _, h => by omega
  | 0, m + 1, _, _ => by
    rw [law21_bound_L2_eq, show decide (((0 : Nat) : Int) - 1 ≥ 0) = false from rfl, cond_false]
    rfl
  | k + 1, m + 1, hk, hm => by
    have hn := h.n
    have hsm := h.small
    have hlt : k < xs.length := by omega
    obtain ⟨b, hb, h1, h2⟩ := kt_cells h (i := k) (x := xs[k]) (List.getElem?_eq_getElem hlt)
    rw [law21_bound_L2_eq, hn, show ((k + 1 : Nat) : Int) - 1 = (k : Int) by omega, decide_eq_true (show (k : Int) ≥ 0 by omega), cond_true, Bool.true_and, lt_true hlt, cond_true, hb, Option.bind_some, Int.toNat_natCast, h1, Option.bind_some, lastB_snoc hlt]
    by_cases hk' : (xs[k]).1 = key
    · rw [if_pos hk', show ((xs[k]).1 == key) = true by rw [beq_iff_eq]; exact hk', cond_true, cond_true, Option.bind_some, h2, Option.bind_some]
    · rw [if_neg hk', show ((xs[k]).1 == key) = false by rw [beq_eq_false_iff_ne]; exact hk', cond_false, show IntKind.i64.wrap ((k : Int) - 1) = (k : Int) - 1 by rw [IntKind.wrap_i64]; omega]
      exact bound_loop h k m (by omega) (by omega)
noncomputable def w_law21_bound (s : Sl) (key : Int) (σ : Heap) : Option (ByteArray × Heap) := wOf (fun xs : List KT => s.Is eKT σ xs) fun xs => (ba (lastB key xs), σ)
theorem w_law21_bound_eq {s : Sl} {key : Int} {σ : Heap} {xs : List KT} (h : s.Is eKT σ xs) : w_law21_bound s key σ = some (ba (lastB key xs), σ) := wOf_eq (x := xs) h fun ys hy => by rw [h.uniq (by decide) hy]
theorem ok_law21_bound : Ok_law21_bound w_law21_bound := fun s key σ v σ' h => by
  obtain ⟨xs, hx, e⟩ := wOf_some h
  injection e with e1 e2
  subst e1; subst e2
  have hl := bound_loop (L := xs.length + 1) (key := key) hx xs.length (xs.length + 1) (Nat.le_refl _) (by omega)
  rw [List.take_length] at hl
  refine call_ok ok (K_law21_bound c_law21_bound ok_ref21_Standard) (L := xs.length + 1) (n := 2) ((law21_bound_eq c_law21_bound (xs.length + 1) s key σ _).trans ?_)
  have hsm := hx.small
  rw [hx.n, show IntKind.i64.wrap ((xs.length : Int) - 1) = (xs.length : Int) - 1 by rw [IntKind.wrap_i64]; omega]
  exact hl
/-! ### table -/
noncomputable def c_law21_table : C_law21_table := { command_Standard := w_command_Standard, command_Table_Bind := w_command_Table_Bind }
theorem tabL_snoc {xs : List KT} {i : Nat} (h : i < xs.length) : tabL (xs.take (i + 1)) = bindR (xs[i]).1 (xs[i]).2 (tabL (xs.take i)) := by
  unfold tabL bindR
  rw [List.take_add_one, List.getElem?_eq_getElem h, Option.toList_some, List.foldl_append, List.foldl_cons, List.foldl_nil]
theorem tabL_len (xs : List KT) : (tabL xs).length ≤ 19 + xs.length := tab_len xs stdL
theorem table_loop {L : Nat} {s : Sl} {σ0 : Heap} {xs : List KT} (h : s.Is eKT σ0 xs) (hs : xs.length ≤ 60) : ∀ (j i m : Nat) (t : Sl) (σ : Heap), i + j = xs.length → j < m → Mine eKT σ0 t σ (tabL (xs.take i)) → decide (tabL (xs.take i) = []) = t.b.isNone →
    ∃ (q : Sl) (σ1 : Heap), law21_table_L3 (R := AVal × Heap) c_law21_table L m t s (i : Int) σ (fun v σ => some (v, σ)) = some (.slice q.b q.o q.n 2, σ1) ∧ Mine eKT σ0 q σ1 (tabL xs) ∧ decide (tabL xs = []) = q.b.isNone
  | j, i, 0, t, σ, _, h, _, _ => by omega
  | 0, i, m + 1, t, σ, hi, _, hm, hb => by
    have hn := h.n
    rw [List.take_of_length_le (by omega)] at hm hb
    rw [law21_table_L3_eq, hn, lt_false (by omega), cond_false]
    exact ⟨t, σ, rfl, hm, hb⟩
  | j + 1, i, m + 1, t, σ, hi, hm', hm, hb => by
    have hn := h.n
    have hlt : i < xs.length := by omega
    obtain ⟨b, hb1, c1, c2⟩ := kt_cells (h.pre hm.pre) (i := i) (x := xs[i]) (List.getElem?_eq_getElem hlt)
    have p1 : c_law21_table.command_Table_Bind = w_command_Table_Bind := rfl
    have hl := tabL_len (xs.take i)
    have hti : t.Is eKT σ (tabL (xs.take i)) := hm.own.is (by rw [List.length_take] at hl; omega)
    rw [law21_table_L3_eq, hn, lt_true hlt, cond_true, dec0, Bool.true_and, cond_true, hb1, Option.bind_some, Int.toNat_natCast, c1, Option.bind_some, c2, Option.bind_some, p1, w_command_Table_Bind_eq hti (by rw [List.length_take] at hl; omega), Option.bind_some, wrap_i64_succ i (by omega), ← tabL_snoc hlt]
    have hnil : decide (tabL (xs.take (i + 1)) = []) = true → tabL (xs.take (i + 1)) = [] := fun h => by simpa using h
    refine table_loop h hs j (i + 1) m _ _ (by omega) (by omega) ⟨hm.pre.trans (fresh_pre ..), fresh_own _ _ _ _ hnil, fun c hc => ?_⟩ ?_
    · have := fresh_new _ _ _ _ c hc
      have := hm.pre.length_le
      omega
    · unfold fresh
      cases decide (tabL (xs.take (i + 1)) = []) <;> rfl
noncomputable def w_law21_table (s : Sl) (σ : Heap) : Option (Sl × Heap) := wOf (fun xs : List KT => s.Is eKT σ xs ∧ xs.length ≤ 60) fun xs => fresh eKT σ (decide (tabL xs = [])) (tabL xs)
theorem w_law21_table_eq {s : Sl} {σ : Heap} {xs : List KT} (h : s.Is eKT σ xs) (hs : xs.length ≤ 60) : w_law21_table s σ = some (fresh eKT σ (decide (tabL xs = [])) (tabL xs)) := wOf_eq (x := xs) ⟨h, hs⟩ fun ys hy => by rw [h.uniq (by decide) hy.1]
theorem ok_law21_table : Ok_law21_table w_law21_table := fun s σ v σ' h => by
  obtain ⟨xs, ⟨hx, hs⟩, e⟩ := wOf_some h
  have p1 : c_law21_table.command_Standard = w_command_Standard := rfl
  obtain ⟨q, σ1, h1, h2, h3⟩ := table_loop (L := xs.length + 1) hx hs xs.length 0 (xs.length + 1) (fresh eKT σ false stdL).1 (fresh eKT σ false stdL).2 (by omega) (by omega) ⟨fresh_pre .., fresh_own _ _ _ _ (fun h => by cases h), fun c hc => fresh_new _ _ _ _ c hc⟩ rfl
  have := call_mine (call_ok ok (K_law21_table c_law21_table ok_command_Standard ok_command_Table_Bind) (L := xs.length + 1) (n := 2) ((law21_table_eq c_law21_table (xs.length + 1) s σ _).trans (by
    rw [p1, show w_command_Standard σ = some (fresh eKT σ false stdL) from rfl, Option.bind_some]
    exact h1))) h2 h3
  rw [show fresh eKT σ (decide (tabL xs = [])) (tabL xs) = (v, σ') from e] at this
  exact this
/-! ### CommandTables -/
noncomputable def c_CommandTables : C_law21_CommandTables := { law21_fit := w_law21_fit, law21_table := w_law21_table, law21_bound := w_law21_bound, command_Table_Find := w_command_Table_Find }
theorem rise_at : ∀ {xs : List KT} {b : Int}, Rise b xs → ∀ (i : Nat) (h : i < xs.length), (xs[i]).2 ≠ [] ∧ findB (xs[i]).1 xs = (xs[i]).2 ∧ b < (xs[i]).1 ∧ (∀ h1 : i + 1 < xs.length, (xs[i]).1 < (xs[i + 1]).1)
  | [], _, _, i, h => by simp at h
  | x :: r, b, ⟨h1, h2, h3⟩, 0, h => by
    refine ⟨h2, by rw [findB]; exact if_pos rfl, h1, fun h => ?_⟩
    cases r with
    | nil => simp at h
    | cons y r => exact h3.1
  | x :: r, b, ⟨h1, h2, h3⟩, i + 1, h => by
    have hi : i < r.length := by simpa using h
    obtain ⟨a1, a2, a3, a4⟩ := rise_at h3 i hi
    simp only [List.getElem_cons_succ]
    refine ⟨a1, ?_, by omega, fun h => a4 (by simpa using h)⟩
    rw [findB, if_neg (by omega)]
    exact a2
theorem Tables_loop {L : Nat} {s t : Sl} {σ : Heap} {xs : List KT} {key : Int} (hs : s.Is eKT σ xs) (h0 : ∀ x ∈ xs, 0 ≤ x.1) (ht : t.Is eKT σ (tabL xs)) (hl : (tabL xs).length ≤ 1000) : ∀ (j i m : Nat), i + j = (tabL xs).length → j < m →
    law21_CommandTables_L7 (R := AVal × Heap) c_CommandTables L m s key t t (((tabL xs).length : Nat) : Int) (i : Int) σ (fun v σ => some (v, σ)) = some (.bool true, σ)
  | j, i, 0, _, h => by omega
  | 0, i, m + 1, hi, _ => by
    have p3 : c_CommandTables.law21_bound = w_law21_bound := rfl
    have p4 : c_CommandTables.command_Table_Find = w_command_Table_Find := rfl
    rw [law21_CommandTables_L7_eq, lt_false (by omega), cond_false, p3, p4, w_command_Table_Find_eq ht, Option.bind_some]
    simp only
    rw [w_law21_bound_eq hs, Option.bind_some, tab_find h0]
    simp only [beq_self_eq_true]
  | j + 1, i, m + 1, hi, hm => by
    have hn := ht.n
    have hlt : i < (tabL xs).length := by omega
    have p3 : c_CommandTables.law21_bound = w_law21_bound := rfl
    obtain ⟨b, hb, c1, c2⟩ := kt_cells ht (i := i) (x := (tabL xs)[i]) (List.getElem?_eq_getElem hlt)
    obtain ⟨r1, r2, r3, r4⟩ := rise_at (tab_rise h0) i hlt
    have hbd : w_law21_bound s ((tabL xs)[i]).1 σ.frz = some (ba ((tabL xs)[i]).2, σ.frz) := by
      rw [w_law21_bound_eq hs.frz, ← tab_find h0, r2]
    have ih := Tables_loop (L := L) (key := key) hs h0 ht hl j (i + 1) m (by omega) (by omega)
    rw [law21_CommandTables_L7_eq, hn, lt_true hlt, cond_true, dec0, Bool.true_and, cond_true, hb, Option.bind_some, Int.toNat_natCast, c1, Option.bind_some, c2, Option.bind_some, ba_nil, ba_toList, ba_toList, show (((tabL xs)[i]).2 == []) = false by rw [beq_eq_false_iff_ne]; exact r1, cond_false, p3]
    cases i with
    | zero =>
      rw [show decide (((0 : Nat) : Int) > 0) = false from rfl, cond_false, hbd, Option.bind_some]
      simp only [ba_toList, beq_self_eq_true, Bool.not_true, cond_false, Heap.back_frz]
      exact ih
    | succ i =>
      have hlt' : i < (tabL xs).length := by omega
      obtain ⟨b', hb', d1, _⟩ := kt_cells ht (i := i) (x := (tabL xs)[i]) (List.getElem?_eq_getElem hlt')
      obtain ⟨_, _, _, q4⟩ := rise_at (tab_rise h0) i hlt'
      have hw : IntKind.i64.wrap (((i + 1 : Nat) : Int) - 1) = (i : Int) := by rw [IntKind.wrap_i64]; omega
      rw [hb] at hb'
      injection hb' with hb'
      subst hb'
      rw [decide_eq_true (show ((i + 1 : Nat) : Int) > 0 by omega), cond_true, hw, dec0, Bool.true_and, lt_true hlt', cond_true, Option.bind_some, Int.toNat_natCast, d1, Option.bind_some, decide_eq_false (show ¬ ((tabL xs)[i]).1 ≥ ((tabL xs)[i + 1]).1 by have := q4 hlt; omega), cond_false, hbd, Option.bind_some]
      simp only [ba_toList, beq_self_eq_true, Bool.not_true, cond_false, Heap.back_frz]
      rw [wrap_i64_succ (i + 1) (by omega)]
      exact ih
theorem law_CommandTables (s : Sl) (key : Int) {xs : List KT} {σ : Heap} (hG : GC σ) (hn : s.n = xs.length) (hs' : xs.length ≤ 1099511627776 → s.Is eKT σ xs) (h0 : ∀ x ∈ xs, 0 ≤ x.1) : ∃ σ1, CallOK Tryd.prog T 4 [(tSl 2).av s, (tInt .u8).av key] σ (tBool.av true) σ1 := by
  have p1 : c_CommandTables.law21_fit = w_law21_fit := rfl
  have p2 : c_CommandTables.law21_table = w_law21_table := rfl
  have hcall : ∃ σ1, callC (R := AVal × Heap) T (O_law21_CommandTables c_CommandTables) 1000 2 4 [.slice s.b s.o s.n 2, .int .u8 key] σ (fun v σ => some (v, σ)) = some (.bool true, σ1) := by
    rw [law21_CommandTables_eq, p1, p2, w_law21_fit_eq hG, Option.bind_some, hn]
    simp only [Bool.not_true, cond_false]
    by_cases h : 60 < xs.length
    · rw [decide_eq_true (show (xs.length : Int) > 60 by omega)]; exact ⟨_, rfl⟩
    · have hs := hs' (by omega)
      rw [decide_eq_false (show ¬ (xs.length : Int) > 60 by omega), cond_false, w_law21_table_eq hs (by omega), Option.bind_some]
      have hlen := tabL_len xs
      have hnil : decide (tabL xs = []) = true → tabL xs = [] := fun h => by simpa using h
      have ht : (fresh eKT σ (decide (tabL xs = [])) (tabL xs)).1.Is eKT (fresh eKT σ (decide (tabL xs = [])) (tabL xs)).2 (tabL xs) := (fresh_own _ _ _ _ hnil).is (by omega)
      rw [ht.n]
      exact ⟨_, Tables_loop (hs.pre (fresh_pre ..)) h0 ht (by omega) (tabL xs).length 0 1000 (by omega) (by omega)⟩
  obtain ⟨σ1, h1⟩ := hcall
  exact ⟨σ1, call_ok ok (K_law21_CommandTables c_CommandTables ok_law21_fit ok_law21_table ok_law21_bound ok_command_Table_Find) h1⟩
end Go.Abs.TD
