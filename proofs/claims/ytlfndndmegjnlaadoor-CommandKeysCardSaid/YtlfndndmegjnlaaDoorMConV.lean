/-
CommandKeys answers true.
-/
import Derived.Test.YtlfndndmegjnlaaDoorMConT
import Derived.Test.YtlfndndmegjnlaaDoorEqD6
namespace Go.Abs.TD
open Go Go.Abs Go.Proofs Go.RowKit

noncomputable def c_command_Keys_Feed : C_command_Keys_Feed := { command_Table_Find := w_command_Table_Find }
def feedV (wt : Bool) (c : Int) (xs : List KT) : command_Keys × ByteArray × Bool :=
  bif (!wt) then (⟨c == 2⟩, ba [], c != 2) else (bif (c == 2) then (⟨false⟩, ba [], true) else (⟨false⟩, ba (findB c xs), false))
noncomputable def w_command_Keys_Feed (k : command_Keys) (c : Int) (t : Sl) (σ : Heap) : Option ((command_Keys × ByteArray × Bool) × Heap) := wOf (fun xs : List KT => t.Is eKT σ xs) fun xs => (feedV k.Waits c xs, σ)
theorem w_command_Keys_Feed_eq {k : command_Keys} {c : Int} {t : Sl} {σ : Heap} {xs : List KT} (h : t.Is eKT σ xs) : w_command_Keys_Feed k c t σ = some (feedV k.Waits c xs, σ) := wOf_eq (x := xs) h fun ys hy => by rw [h.uniq (by decide) hy]
theorem ok_command_Keys_Feed : Ok_command_Keys_Feed w_command_Keys_Feed := fun k c t σ v σ' h => by
  obtain ⟨xs, hx, e⟩ := wOf_some h
  injection e with e1 e2
  subst e1; subst e2
  refine call_ok ok (K_command_Keys_Feed c_command_Keys_Feed ok_command_Table_Find) (L := 0) (n := 2) ((command_Keys_Feed_eq c_command_Keys_Feed 0 k c t σ _).trans ?_)
  have p1 : c_command_Keys_Feed.command_Table_Find = w_command_Table_Find := rfl
  rw [p1, w_command_Table_Find_eq hx]
  unfold feedV
  cases k.Waits
  · rfl
  · cases c == 2 <;> rfl
noncomputable def c_CommandKeys : C_law21_CommandKeys := { law21_fit := w_law21_fit, law21_table := w_law21_table, law21_bound := w_law21_bound, command_Keys_Feed := w_command_Keys_Feed }
section
variable {L m : Nat} {s t : Sl} {σ : Heap} {xs : List KT} {l : List UInt8} {i : Nat}
theorem hc_of (hlt : i < l.length) : (decide ((0 : Int) ≤ (i : Int)) && decide ((i : Int) < (l.length : Int))) = true := by rw [dec0, Bool.true_and, lt_true hlt]
theorem Keys_J15 (hs : s.Is eKT σ xs) (hlt : i < l.length) (wt : Bool) (text : ByteArray) (pass goes k : Bool) : law21_CommandKeys_J15 (R := AVal × Heap) c_CommandKeys L m s (ba l) t wt (i : Int) text pass goes k σ (fun v σ => some (v, σ)) =
    law21_CommandKeys_J17 (R := AVal × Heap) c_CommandKeys L m s (ba l) t wt (i : Int) text pass (ba (bif wt then (bif ((((l.getD i 0).toNat : Nat) : Int) != 2) then lastB (((l.getD i 0).toNat : Nat) : Int) xs else []) else [])) goes k σ (fun v σ => some (v, σ)) := by
  have p2 : c_CommandKeys.law21_bound = w_law21_bound := rfl
  rw [law21_CommandKeys_J15_eq, ba_size, ba_data, hc_of hlt, Int.toNat_natCast, p2, w_law21_bound_eq hs, Option.bind_some, ba_nil]
  cases wt with
  | false => rw [cond_false, cond_false]
  | true =>
    rw [cond_true, cond_true, cond_true, cond_true]
    cases h : ((((l.getD i 0).toNat : Nat) : Int) != 2) with
    | false => rw [cond_false, cond_false]
    | true => rw [cond_true, cond_true]
theorem Keys_J17f (hlt : i < l.length) (text : ByteArray) (pass : Bool) (want : ByteArray) (goes k : Bool) : law21_CommandKeys_J17 (R := AVal × Heap) c_CommandKeys L m s (ba l) t false (i : Int) text pass want goes k σ (fun v σ => some (v, σ)) =
    law21_CommandKeys_J18 (R := AVal × Heap) c_CommandKeys L m s (ba l) t ((((l.getD i 0).toNat : Nat) : Int) == 2) text pass want goes (i : Int) k σ (fun v σ => some (v, σ)) := by
  rw [law21_CommandKeys_J17_eq, ba_size, ba_data, hc_of hlt, Int.toNat_natCast, Bool.not_false, cond_true, cond_true]
theorem Keys_J17t (text : ByteArray) (pass : Bool) (want : ByteArray) (goes k : Bool) : law21_CommandKeys_J17 (R := AVal × Heap) c_CommandKeys L m s (ba l) t true (i : Int) text pass want goes k σ (fun v σ => some (v, σ)) =
    law21_CommandKeys_J18 (R := AVal × Heap) c_CommandKeys L m s (ba l) t false text pass want goes (i : Int) k σ (fun v σ => some (v, σ)) := by
  rw [law21_CommandKeys_J17_eq, Bool.not_true, cond_false]
end
theorem Keys_loop {L : Nat} {s t : Sl} {σ : Heap} {xs : List KT} {l : List UInt8} (hs : s.Is eKT σ xs) (h0 : ∀ x ∈ xs, 0 ≤ x.1) (ht : t.Is eKT σ (tabL xs)) (hl : l.length ≤ 1000) : ∀ (j i m : Nat) (wt : Bool), i + j = l.length → j < m →
    law21_CommandKeys_L9 (R := AVal × Heap) c_CommandKeys L m s (ba l) t wt (i : Int) wt σ (fun v σ => some (v, σ)) = some (.bool true, σ)
  | j, i, 0, _, _, h => by omega
  | 0, i, m + 1, wt, hi, _ => by
    rw [law21_CommandKeys_L9_eq, ba_size, lt_false (by omega), cond_false]
  | j + 1, i, m + 1, wt, hi, hm => by
    have hlt : i < l.length := by omega
    have p1 : c_CommandKeys.command_Keys_Feed = w_command_Keys_Feed := rfl
    have ih := fun wt' => Keys_loop (L := L) hs h0 ht hl j (i + 1) m wt' (by omega) (by omega)
    have last : ∀ (wt' : Bool) (text : ByteArray) (goes : Bool), law21_CommandKeys_J18 (R := AVal × Heap) c_CommandKeys L m s (ba l) t wt' text goes text goes (i : Int) wt' σ (fun v σ => some (v, σ)) = some (.bool true, σ) := fun wt' text goes => by
      rw [law21_CommandKeys_J18_eq, beq_self_eq_true, beq_self_eq_true, beq_self_eq_true, Bool.not_true, cond_false, cond_false, cond_false, wrap_i64_succ i (by omega)]
      exact ih wt'
    rw [law21_CommandKeys_L9_eq, ba_size, ba_data, hc_of hlt, lt_true hlt, cond_true, cond_true, Int.toNat_natCast, p1, w_command_Keys_Feed_eq ht, Option.bind_some]
    have hne : ((((l.getD i 0).toNat : Nat) : Int) != 2) = !((((l.getD i 0).toNat : Nat) : Int) == 2) := rfl
    cases hd : ((((l.getD i 0).toNat : Nat) : Int) == 2) with
    | true =>
      rw [hd] at hne
      cases wt with
      | false =>
        have hf : feedV (command_Keys.mk false).Waits (((l.getD i 0).toNat : Nat) : Int) (tabL xs) = (⟨true⟩, ba [], false) := by
          unfold feedV; rw [hd, hne]; rfl
        rw [hf, hne, Bool.not_false, cond_true, cond_true, Bool.not_true, cond_false, cond_false, Keys_J15 hs hlt, Keys_J17f hlt, hd, cond_false]
        exact last true (ba []) false
      | true =>
        have hf : feedV (command_Keys.mk true).Waits (((l.getD i 0).toNat : Nat) : Int) (tabL xs) = (⟨false⟩, ba [], true) := by
          unfold feedV; rw [hd]; rfl
        rw [hf, Bool.not_true, cond_false, cond_true, cond_true, Keys_J15 hs hlt, Keys_J17t, hne, Bool.not_true, cond_true, cond_false]
        exact last false (ba []) true
    | false =>
      rw [hd] at hne
      cases wt with
      | false =>
        have hf : feedV (command_Keys.mk false).Waits (((l.getD i 0).toNat : Nat) : Int) (tabL xs) = (⟨false⟩, ba [], true) := by
          unfold feedV; rw [hd, hne]; rfl
        rw [hf, hne, Bool.not_false, cond_true, cond_true, cond_true, Keys_J15 hs hlt, Keys_J17f hlt, hd, cond_false]
        exact last false (ba []) true
      | true =>
        have hf : feedV (command_Keys.mk true).Waits (((l.getD i 0).toNat : Nat) : Int) (tabL xs) = (⟨false⟩, ba (lastB (((l.getD i 0).toNat : Nat) : Int) xs), false) := by
          unfold feedV; rw [hd, tab_find h0]; rfl
        rw [hf, Bool.not_true, cond_false, cond_true, cond_true, Keys_J15 hs hlt, Keys_J17t, hne, Bool.not_false, cond_true, cond_true]
        exact last false _ false
theorem law_CommandKeys (s : Sl) (str : ByteArray) {xs : List KT} {σ : Heap} (hG : GC σ) (hn : s.n = xs.length) (hs' : xs.length ≤ 1099511627776 → s.Is eKT σ xs) (h0 : ∀ x ∈ xs, 0 ≤ x.1) : ∃ σ1, CallOK Tryd.prog T 7 [(tSl 2).av s, tStr.av str] σ (tBool.av true) σ1 := by
  obtain ⟨l, rfl⟩ : ∃ l, str = ba l := ⟨_, ba_self str⟩
  have p1 : c_CommandKeys.law21_fit = w_law21_fit := rfl
  have p2 : c_CommandKeys.law21_table = w_law21_table := rfl
  have hcall : ∃ σ1, callC (R := AVal × Heap) T (O_law21_CommandKeys c_CommandKeys) 1000 2 7 [.slice s.b s.o s.n 2, .str (ba l)] σ (fun v σ => some (v, σ)) = some (.bool true, σ1) := by
    rw [law21_CommandKeys_eq, p1, p2, w_law21_fit_eq hG, Option.bind_some, hn, ba_size]
    simp only [Bool.not_true, cond_false]
    by_cases h : 60 < xs.length
    · rw [decide_eq_true (show (xs.length : Int) > 60 by omega)]; exact ⟨_, rfl⟩
    · have hs := hs' (by omega)
      rw [decide_eq_false (show ¬ (xs.length : Int) > 60 by omega), cond_false]
      by_cases h3 : 300 < l.length
      · rw [decide_eq_true (show (l.length : Int) > 300 by omega)]; exact ⟨_, rfl⟩
      · rw [decide_eq_false (show ¬ (l.length : Int) > 300 by omega), cond_false, w_law21_table_eq hs (by omega), Option.bind_some]
        have hlen := tabL_len xs
        have hnil : decide (tabL xs = []) = true → tabL xs = [] := fun h => by simpa using h
        have ht : (fresh eKT σ (decide (tabL xs = [])) (tabL xs)).1.Is eKT (fresh eKT σ (decide (tabL xs = [])) (tabL xs)).2 (tabL xs) := (fresh_own _ _ _ _ hnil).is (by omega)
        exact ⟨_, Keys_loop (hs.pre (fresh_pre ..)) h0 ht (by omega) l.length 0 1000 false (by omega) (by omega)⟩
  obtain ⟨σ1, h1⟩ := hcall
  exact ⟨σ1, call_ok ok (K_law21_CommandKeys c_CommandKeys ok_law21_fit ok_law21_table ok_law21_bound ok_command_Keys_Feed) h1⟩
end Go.Abs.TD
