/-
JsonSigns answers true.
-/
import Derived.Test.YtohlebkhlbcnaaaDoorMConP
import Derived.Test.YtohlebkhlbcnaaaDoorEqB2
namespace Go.Abs.TB
open Go Go.Abs Go.Proofs

theorem sdig : ∀ n : Fin 128, n.val < 32 ∨ n.val = 127 →
    IntKind.u8.wrap (IntKind.i32.wrap (48 + (IntKind.i32.wrap (Int.tdiv ((n.val : Nat) : Int) 16)))) = ((hexd (n.val / 16)).toNat : Int) ∧
    (decide ((Int.tmod ((n.val : Nat) : Int) 16) > 9) = true → IntKind.u8.wrap (IntKind.i32.wrap ((IntKind.i32.wrap (97 + (Int.tmod ((n.val : Nat) : Int) 16))) - 10)) = ((hexd (n.val % 16)).toNat : Int)) ∧
    (decide ((Int.tmod ((n.val : Nat) : Int) 16) > 9) = false → IntKind.u8.wrap (IntKind.i32.wrap (48 + (Int.tmod ((n.val : Nat) : Int) 16))) = ((hexd (n.val % 16)).toNat : Int)) := by decide +kernel
theorem runesA_valid (s : ByteArray) : ∀ (k i : Nat), ∀ x ∈ runesA s k i, ∃ n : Nat, x = (n : Int) ∧ Utf8.valid x = true
  | 0, i, x, h => by simp [runesA] at h
  | k + 1, i, x, h => by
    unfold runesA at h
    split at h
    · rcases List.mem_cons.1 h with rfl | h
      · exact ⟨_, rfl, decode_valid s i⟩
      · exact runesA_valid s k _ x h
    · cases h
noncomputable def c_JsonSigns : C_law03_JsonSigns := { law03_fit := w_law03_fit, json_Quote := w_json_Quote }
theorem JsonSigns_loop {L b : Nat} {s : ByteArray} {σ0 : Heap} (hs : s.size ≤ 300) (hb : b < σ0.length) (hc : σ0[b]? = some (.row (eI32.all (runesA s s.size 0)) .rw)) :
    ∀ (k i m : Nat) (σ : Heap), i + k = (runesA s s.size 0).length → k < m → σ0 <+: σ →
      ∃ σ1, law03_JsonSigns_L7 (R := AVal × Heap) c_JsonSigns L m s (ba (34 :: ((rsN s s.size 0).take i).flatMap signB)) b (i : Int) σ (fun v σ => some (v, σ)) = some (.bool true, σ1)
  | k, i, 0, _, _, h, _ => by omega
  | 0, i, m + 1, σ, h, _, hp => by
    have p1 : c_JsonSigns.json_Quote = w_json_Quote := rfl
    have hl : (rsN s s.size 0).length = (runesA s s.size 0).length := by simp [rsN]
    have hsz : (ba (34 :: (rsN s s.size 0).flatMap signB)).size + (⟨#[34]⟩ : ByteArray).size ≤ 9223372036854775807 := by
      have := flat_len (rsN s s.size 0)
      have := rsN_len s s.size 0
      rw [ba_size]
      show _ + 1 ≤ _
      rw [List.length_cons]; omega
    rw [law03_JsonSigns_L7_eq, lt_false (by omega), cond_false, p1, w_json_Quote_eq (by omega), Option.bind_some, List.take_of_length_le (by omega), if_pos hsz,
      show ((⟨#[34]⟩ : ByteArray)) = ba [34] from rfl, ba_append]
    refine ⟨σ, ?_⟩
    dsimp only
    rw [show 34 :: (rsN s s.size 0).flatMap signB ++ [34] = quoteB s from by rw [quoteB.eq_1, List.cons_append], beq_self_eq_true]
  | k + 1, i, m + 1, σ, h, hm, hp => by
    have hi : i < (runesA s s.size 0).length := by omega
    have hl : (rsN s s.size 0).length = (runesA s s.size 0).length := by simp [rsN]
    have hx := List.getElem?_eq_getElem hi
    obtain ⟨n, hn, hv⟩ := runesA_valid s s.size 0 _ (List.getElem_mem hi)
    rw [hn] at hx hv
    have hv' := valid_iff.1 hv
    have hr : (rsN s s.size 0)[i]? = some n := by
      unfold rsN
      rw [List.getElem?_map, hx]; rfl
    have hcell : Heap.cell? σ b (0 + i * 1) = some (.int .i32 (n : Int)) := by
      unfold Heap.cell? Heap.row?
      rw [get_pre hp hb, hc]
      simp only [Option.bind_some]
      have := eI32.all_get _ i 0 _ hx (by decide)
      rw [show i * eI32.z + 0 = 0 + i * 1 from by show i * 1 + 0 = _; omega] at this
      rw [this]; rfl
    -- what comes behind
    have hln := rsN_len s s.size 0
    have recur : ∀ (σ' : Heap) (zs : List UInt8), σ0 <+: σ' → zs = signB n →
        ∃ σ1, law03_JsonSigns_L7 (R := AVal × Heap) c_JsonSigns L m s (ba (34 :: ((rsN s s.size 0).take i).flatMap signB) ++ ba zs) b (IntKind.i64.wrap ((i : Int) + 1)) σ' (fun v σ => some (v, σ)) = some (.bool true, σ1) := fun σ' zs hp' hz => by
      have := JsonSigns_loop (L := L) hs hb hc k (i + 1) m σ' (by omega) (by omega) hp'
      rw [wrap_i64_succ i (by omega)]
      rw [List.take_add_one, hr, List.flatMap_append] at this
      rw [ba_append, hz]
      simpa using this
    have small : ∀ zs : List UInt8, zs.length ≤ 20 → (ba (34 :: ((rsN s s.size 0).take i).flatMap signB)).size + (ba zs).size ≤ 9223372036854775807 := fun zs hz => by
      have := flat_len ((rsN s s.size 0).take i)
      have : ((rsN s s.size 0).take i).length ≤ 300 := by simp; omega
      rw [ba_size, ba_size, List.length_cons]; omega
    have hel := encB_len n
    rw [law03_JsonSigns_L7_eq, lt_true hi, cond_true, dec0, Bool.and_self, cond_true, Int.toNat_natCast, hcell]
    simp only [int?, if_true, Option.bind_some, alloc]
    have esc : n = 34 ∨ n = 92 → ∃ σ1, ((Heap.read (σ ++ [.row [.int .i32 (n : Int)] .rw]) (some σ.length) 0 1 1).bind fun cs8 => (runesIn cs8).bind fun rs9 =>
          if (⟨#[92]⟩ : ByteArray).size + (encodeAll rs9).size ≤ 9223372036854775807 then (
            if (ba (34 :: ((rsN s s.size 0).take i).flatMap signB)).size + ((⟨#[92]⟩ : ByteArray) ++ (encodeAll rs9)).size ≤ 9223372036854775807 then (
              law03_JsonSigns_L7 (R := AVal × Heap) c_JsonSigns L m s (ba (34 :: ((rsN s s.size 0).take i).flatMap signB) ++ ((⟨#[92]⟩ : ByteArray) ++ (encodeAll rs9))) b (IntKind.i64.wrap ((i : Int) + 1)) (σ ++ [.row [.int .i32 (n : Int)] .rw]) (fun v σ => some (v, σ)))
            else none) else none) = some (.bool true, σ1) := fun hc34 => by
      rw [read_new (k := 1) rfl, Option.bind_some, show runesIn [.int .i32 (n : Int)] = some [(n : Int)] from rfl, Option.bind_some, encodeAll_one, show ((⟨#[92]⟩ : ByteArray)) = ba [92] from rfl, ba_append,
        if_pos (by rw [ba_size, ba_size]; show 1 + _ ≤ _; omega), if_pos (small ([92] ++ encB n) (by rw [List.length_append]; show 1 + _ ≤ 20; omega))]
      refine recur _ _ (hp.trans (pre_push ..)) ?_
      unfold signB
      rw [if_pos hc34, enc1 (by omega)]; rfl
    have hex : n < 32 ∨ n = 127 → n ≠ 10 → n ≠ 13 → ∀ vs : List AVal, vs = eU8.all [hexd (n / 16), hexd (n % 16)] → ∃ σ1, ((Heap.read (σ ++ [.row vs .rw]) (some σ.length) 0 2 1).bind fun cs16 => (bytesOf cs16).bind fun bs17 =>
            if (⟨#[92, 117, 48, 48]⟩ : ByteArray).size + (⟨bs17.toArray⟩ : ByteArray).size ≤ 9223372036854775807 then (
              if (ba (34 :: ((rsN s s.size 0).take i).flatMap signB)).size + ((⟨#[92, 117, 48, 48]⟩ : ByteArray) ++ (⟨bs17.toArray⟩ : ByteArray)).size ≤ 9223372036854775807 then (
                law03_JsonSigns_L7 (R := AVal × Heap) c_JsonSigns L m s (ba (34 :: ((rsN s s.size 0).take i).flatMap signB) ++ ((⟨#[92, 117, 48, 48]⟩ : ByteArray) ++ (⟨bs17.toArray⟩ : ByteArray))) b (IntKind.i64.wrap ((i : Int) + 1)) (σ ++ [.row vs .rw]) (fun v σ => some (v, σ)))
              else none) else none) = some (.bool true, σ1) := fun hc32 h10 h13 vs hvs => by
      subst hvs
      rw [read_new (k := 2) rfl, Option.bind_some, bytes_all, Option.bind_some, show ((⟨#[92, 117, 48, 48]⟩ : ByteArray)) = ba [92, 117, 48, 48] from rfl, show (⟨[hexd (n / 16), hexd (n % 16)].toArray⟩ : ByteArray) = ba [hexd (n / 16), hexd (n % 16)] from rfl, ba_append,
        if_pos (by rw [ba_size, ba_size]; show 4 + 2 ≤ _; omega), if_pos (small ([92, 117, 48, 48] ++ [hexd (n / 16), hexd (n % 16)]) (by rw [List.length_append]; show 4 + 2 ≤ 20; omega))]
      refine recur _ _ (hp.trans (pre_push ..)) ?_
      unfold signB
      rw [if_neg (by omega), if_neg h10, if_neg h13, if_pos hc32]; rfl
    by_cases h34 : n = 34
    · rw [show ((n : Int) == 34) = true by simp [h34], cond_true]
      exact esc (.inl h34)
    rw [show ((n : Int) == 34) = false by rw [beq_eq_false_iff_ne]; omega, cond_false]
    by_cases h92 : n = 92
    · rw [show ((n : Int) == 92) = true by simp [h92], cond_true]
      exact esc (.inr h92)
    rw [show ((n : Int) == 92) = false by rw [beq_eq_false_iff_ne]; omega, cond_false]
    by_cases h10 : n = 10
    · rw [show ((n : Int) == 10) = true by simp [h10], cond_true, show ((⟨#[92, 110]⟩ : ByteArray)) = ba [92, 110] from rfl, if_pos (small _ (by show 2 ≤ 20; omega))]
      exact recur _ _ hp (by unfold signB; rw [if_neg (by omega), if_pos h10])
    rw [show ((n : Int) == 10) = false by rw [beq_eq_false_iff_ne]; omega, cond_false]
    by_cases h13 : n = 13
    · rw [show ((n : Int) == 13) = true by simp [h13], cond_true, show ((⟨#[92, 114]⟩ : ByteArray)) = ba [92, 114] from rfl, if_pos (small _ (by show 2 ≤ 20; omega))]
      exact recur _ _ hp (by unfold signB; rw [if_neg (by omega), if_neg h10, if_pos h13])
    rw [show ((n : Int) == 13) = false by rw [beq_eq_false_iff_ne]; omega, cond_false]
    have hd := fun hc : n < 32 ∨ n = 127 => sdig ⟨n, by omega⟩ hc
    simp only at hd
    by_cases h32 : n < 32
    · obtain ⟨d1, d2, d3⟩ := hd (.inl h32)
      rw [show decide ((n : Int) < 32) = true by simp; omega, cond_true, d1]
      cases hdc : decide ((Int.tmod (n : Int) 16) > 9) with
      | true => rw [cond_true, d2 hdc]; exact hex (.inl h32) h10 h13 _ rfl
      | false => rw [cond_false, d3 hdc]; exact hex (.inl h32) h10 h13 _ rfl
    rw [show decide ((n : Int) < 32) = false by simp; omega, cond_false]
    by_cases h127 : n = 127
    · obtain ⟨d1, d2, d3⟩ := hd (.inr h127)
      rw [show ((n : Int) == 127) = true by simp [h127], cond_true, d1]
      cases hdc : decide ((Int.tmod (n : Int) 16) > 9) with
      | true => rw [cond_true, d2 hdc]; exact hex (.inr h127) h10 h13 _ rfl
      | false => rw [cond_false, d3 hdc]; exact hex (.inr h127) h10 h13 _ rfl
    rw [show ((n : Int) == 127) = false by rw [beq_eq_false_iff_ne]; omega, cond_false, read_new (k := 1) rfl, Option.bind_some, show runesIn [.int .i32 (n : Int)] = some [(n : Int)] from rfl, Option.bind_some, encodeAll_one, if_pos (small _ (by omega))]
    refine recur _ _ (hp.trans (pre_push ..)) ?_
    unfold signB
    rw [if_neg (by omega), if_neg h10, if_neg h13, if_neg (by omega)]
theorem law_JsonSigns (s : ByteArray) {σ : Heap} (hw : PowOK σ) : ∃ σ1, CallOK Tryd.prog T 3 [tStr.av s] σ (tBool.av true) σ1 := by
  have hK := K_law03_JsonSigns c_JsonSigns ok_law03_fit ok_json_Quote
  have p1 : c_JsonSigns.law03_fit = w_law03_fit := rfl
  have go : ∃ σ1, callC (R := AVal × Heap) T (O_law03_JsonSigns c_JsonSigns) 301 2 3 [.str s] σ (fun v σ => some (v, σ)) = some (.bool true, σ1) := by
    rw [law03_JsonSigns_eq, p1, w_law03_fit_eq hw, Option.bind_some]
    dsimp only
    rw [Bool.not_true, cond_false]
    by_cases h1 : s.size ≤ 300
    · rw [show decide ((s.size : Int) > 300) = false by simp; omega, cond_false, decide_eq_true (show s.size ≤ 70368744177664 by omega), cond_true]
      have hl := rsN_len s s.size 0
      have hl' : (rsN s s.size 0).length = (runesA s s.size 0).length := by simp [rsN]
      have e : ((runesA s s.size 0).map fun n => AVal.int .i32 n) = eI32.all (runesA s s.size 0) := by
        induction runesA s s.size 0 with
        | nil => rfl
        | cons x xs ih => rw [List.map_cons, ih, El.all_cons]; rfl
      simp only [alloc]
      rw [e]
      exact JsonSigns_loop (L := 301) (b := σ.length) (s := s) (σ0 := σ ++ [.row (eI32.all (runesA s s.size 0)) .rw]) h1 (by simp) (by simp) (runesA s s.size 0).length 0 301 _ (by omega) (by omega) (List.prefix_refl _)
    · rw [show decide ((s.size : Int) > 300) = true by simp; omega, cond_true]
      exact ⟨_, rfl⟩
  obtain ⟨σ1, h⟩ := go
  exact ⟨σ1, call_ok ok hK h⟩
end Go.Abs.TB
