/-
UTF-8, plain: what is encoded is decoded; texts that are right come back from their runes.
Contracts of the library's functions, out of the kit's.
Texts as lists; what json.Unquote tells, plain.
Contracts of json.hex, json.escape, json.Unquote, and the laws' whole.
The laws' whole; what a quote has for bytes.
-/
import Derived.Test.YtohlebkhlbcnaaaDoorMConP
import Derived.Lib.ValidLaws
import Derived.Lib.MapLaws
import Derived.Test.YtohlebkhlbcnaaaDoorMAd
import Derived.Test.YtohlebkhlbcnaaaDoorShB
import Derived.Test.YtohlebkhlbcnaaaDoorEqB3
namespace Go.Abs.TB
open Go Go.Abs Go.Proofs

theorem toNat_ofNat {n : Nat} (h : n < 256) : (UInt8.ofNat n).toNat = n := ofNat_toNat h
/-- What was encoded is decoded, whatever is behind it. -/
theorem dec_enc {n : Nat} (hv : Utf8.valid (n : Int) = true) (t : List UInt8) : Lib.decodeL (encB n ++ t) = (n, (encB n).length) := by
  have hv' := valid_iff.1 hv
  rw [Lib.decodeL_N]
  by_cases h1 : n < 128
  · rw [enc1 h1]
    simp only [List.cons_append, List.nil_append, List.getD_cons_zero, toNat_ofNat (show n < 256 by omega)]
    unfold Lib.decodeN
    rw [if_pos h1]; rfl
  by_cases h2 : n < 2048
  · rw [enc2 (by omega) h2]
    simp only [List.cons_append, List.nil_append, List.getD_cons_zero, List.getD_cons_succ, List.length_cons, toNat_ofNat (show 192 + n / 64 < 256 by omega), toNat_ofNat (show 128 + n % 64 < 256 by omega)]
    unfold Lib.decodeN
    rw [if_neg (by omega), if_pos (by omega), if_pos (by omega)]
    exact Prod.ext (by show _ = n; omega) rfl
  by_cases h3 : n < 65536
  · rw [enc3 (by omega) h3 hv]
    simp only [List.cons_append, List.nil_append, List.getD_cons_zero, List.getD_cons_succ, List.length_cons, toNat_ofNat (show 224 + n / 4096 < 256 by omega), toNat_ofNat (show 128 + n / 64 % 64 < 256 by omega), toNat_ofNat (show 128 + n % 64 < 256 by omega)]
    unfold Lib.decodeN
    rw [if_neg (by omega), if_neg (by omega), if_pos (by omega), if_pos (by omega)]
    exact Prod.ext (by show _ = n; omega) rfl
  · rw [enc4 (by omega) hv]
    simp only [List.cons_append, List.nil_append, List.getD_cons_zero, List.getD_cons_succ, List.length_cons, toNat_ofNat (show 240 + n / 262144 < 256 by omega), toNat_ofNat (show 128 + n / 4096 % 64 < 256 by omega), toNat_ofNat (show 128 + n / 64 % 64 < 256 by omega), toNat_ofNat (show 128 + n % 64 < 256 by omega)]
    unfold Lib.decodeN
    rw [if_neg (by omega), if_neg (by omega), if_neg (by omega), if_pos (by omega), if_pos (by omega)]
    exact Prod.ext (by show _ = n; omega) rfl
/-- The runes of a text. -/
def rsL : Nat → List UInt8 → List Nat
  | 0, _ => []
  | k + 1, l => if l = [] then [] else (Lib.decodeL l).1 :: rsL k (l.drop (Lib.decodeL l).2)
theorem rsL_nil : ∀ k, rsL k [] = []
  | 0 => rfl
  | _ + 1 => rfl
theorem rsN_L (s : ByteArray) : ∀ (k i : Nat), rsN s k i = rsL k (s.data.toList.drop i)
  | 0, _ => rfl
  | k + 1, i => by
    have hsz : s.data.toList.length = s.size := by rw [Array.length_toList]; rfl
    by_cases h : i < s.size
    · rw [rsN_step h, rsN_L s k, rsL, if_neg (fun he => by have := congrArg List.length he; rw [List.length_drop, List.length_nil] at this; omega), Lib.decodeL_drop, List.drop_drop]
    · rw [rsN_end h, List.drop_of_length_le (by omega), rsL_nil]
theorem rsL_fuel : ∀ (k k' : Nat) (l : List UInt8), l.length ≤ k → l.length ≤ k' → rsL k l = rsL k' l
  | 0, k', l, h, _ => by
    obtain rfl := List.eq_nil_of_length_eq_zero (Nat.le_zero.1 h)
    rw [rsL_nil, rsL_nil]
  | k + 1, 0, l, _, h => by
    obtain rfl := List.eq_nil_of_length_eq_zero (Nat.le_zero.1 h)
    rw [rsL_nil, rsL_nil]
  | k + 1, k' + 1, l, h, h' => by
    rw [rsL, rsL]
    split
    · rfl
    · rename_i hne
      have := Lib.decodeL_width l
      have := List.length_pos_iff.2 hne
      rw [rsL_fuel k k' _ (by rw [List.length_drop]; omega) (by rw [List.length_drop]; omega)]
def runesOf (l : List UInt8) : List Nat := rsL l.length l
theorem rsN_runes (s : ByteArray) : rsN s s.size 0 = runesOf s.data.toList := by
  rw [rsN_L, List.drop_zero, runesOf]
  congr 1
theorem runesOf_nil : runesOf [] = [] := rfl
theorem runesOf_step {l : List UInt8} (h : l ≠ []) : runesOf l = (Lib.decodeL l).1 :: runesOf (l.drop (Lib.decodeL l).2) := by
  have hl := List.length_pos_iff.2 h
  have hw := Lib.decodeL_width l
  unfold runesOf
  obtain ⟨k, hk⟩ : ∃ k, l.length = k + 1 := ⟨l.length - 1, by omega⟩
  rw [hk, rsL, if_neg h]
  congr 1
  exact rsL_fuel _ _ _ (by rw [List.length_drop]; omega) (Nat.le_refl _)
theorem enc_ne (n : Nat) (t : List UInt8) : encB n ++ t ≠ [] := fun h => by
  have h1 := (encB_len n).1
  have h2 := congrArg List.length h
  rw [List.length_append, List.length_nil] at h2
  omega
theorem runes_enc : ∀ (ns : List Nat), (∀ n ∈ ns, Utf8.valid (n : Int) = true) → runesOf (ns.flatMap encB) = ns
  | [], _ => rfl
  | n :: ns, h => by
    rw [List.flatMap_cons, runesOf_step (enc_ne _ _), dec_enc (h n (by simp))]
    simp only [List.drop_left]
    rw [runes_enc ns fun m hm => h m (by simp [hm])]
theorem valid_enc : ∀ (ns : List Nat), (∀ n ∈ ns, Utf8.valid (n : Int) = true) → Lib.validD (ns.flatMap encB) = true
  | [], _ => rfl
  | n :: ns, h => by
    rw [List.flatMap_cons, Lib.validD_step _ (enc_ne _ _), dec_enc (h n (by simp))]
    simp only [List.drop_left]
    rw [if_neg, valid_enc ns fun m hm => h m (by simp [hm])]
    rintro ⟨rfl, h1⟩
    rw [enc3 (by omega) (by omega) (by decide)] at h1
    simp at h1
theorem enc_rune {n : Nat} (hv : Utf8.valid (n : Int) = true) : Lib.encodeRune (n : Int) = encB n := by
  have hv' := valid_iff.1 hv
  have hb : ∀ m : Nat, ((m : Int)).toNat.toUInt8 = UInt8.ofNat m := fun m => by simp
  unfold Lib.encodeRune
  by_cases h1 : n < 128
  · rw [enc1 h1, Lib.encodeRuneZ_one (by omega) (by omega)]
    rw [List.map_cons, List.map_nil, hb]
  by_cases h2 : n < 2048
  · rw [enc2 (by omega) h2, Lib.encodeRuneZ_two (by omega) (by omega)]
    rw [show (192 + (n : Int) / 64) = ((192 + n / 64 : Nat) : Int) by omega, show (128 + (n : Int) % 64) = ((128 + n % 64 : Nat) : Int) by omega]
    rw [List.map_cons, List.map_cons, List.map_nil, hb, hb]
  by_cases h3 : n < 65536
  · rw [enc3 (by omega) h3 hv, Lib.encodeRuneZ_three (by omega)]
    rw [show (224 + (n : Int) / 4096) = ((224 + n / 4096 : Nat) : Int) by omega, show (128 + (n : Int) / 64 % 64) = ((128 + n / 64 % 64 : Nat) : Int) by omega, show (128 + (n : Int) % 64) = ((128 + n % 64 : Nat) : Int) by omega]
    rw [List.map_cons, List.map_cons, List.map_cons, List.map_nil, hb, hb, hb]
  · rw [enc4 (by omega) hv, Lib.encodeRuneZ_four (by omega) (by omega)]
    rw [show (240 + (n : Int) / 262144) = ((240 + n / 262144 : Nat) : Int) by omega, show (128 + (n : Int) / 4096 % 64) = ((128 + n / 4096 % 64 : Nat) : Int) by omega, show (128 + (n : Int) / 64 % 64) = ((128 + n / 64 % 64 : Nat) : Int) by omega, show (128 + (n : Int) % 64) = ((128 + n % 64 : Nat) : Int) by omega]
    rw [List.map_cons, List.map_cons, List.map_cons, List.map_cons, List.map_nil, hb, hb, hb, hb]
theorem decL_valid (l : List UInt8) : Utf8.valid ((Lib.decodeL l).1 : Int) = true := decode_valid ..
theorem runesOf_valid : ∀ (k : Nat) (l : List UInt8), ∀ n ∈ rsL k l, Utf8.valid (n : Int) = true
  | 0, _, n, h => by cases h
  | k + 1, l, n, h => by
    unfold rsL at h
    split at h
    · cases h
    · rcases List.mem_cons.1 h with rfl | h
      · exact decL_valid l
      · exact runesOf_valid k _ n h
theorem runes_valid (l : List UInt8) : ∀ n ∈ runesOf l, Utf8.valid (n : Int) = true := runesOf_valid _ _
theorem enc_runes : ∀ (k : Nat) (l : List UInt8), l.length ≤ k → Lib.validD l = true → (runesOf l).flatMap encB = l
  | 0, l, h, _ => by
    obtain rfl := List.eq_nil_of_length_eq_zero (Nat.le_zero.1 h)
    rfl
  | k + 1, l, h, hv => by
    by_cases hne : l = []
    · subst hne; rfl
    · have hw := Lib.decodeL_width l
      have hl := List.length_pos_iff.2 hne
      rw [Lib.validD_step l hne] at hv
      split at hv
      · cases hv
      · rename_i hn
        rw [runesOf_step hne, List.flatMap_cons, ← enc_rune (decL_valid l), Lib.encode_decode l hne hn, enc_runes k _ (by rw [List.length_drop]; omega) hv, List.take_append_drop]
/-- The text with U+FFFD for each byte that is no UTF-8. -/
def wholeL (l : List UInt8) : List UInt8 := (runesOf l).flatMap encB
theorem wholeL_valid {l : List UInt8} (h : Lib.validD l = true) : wholeL l = l := enc_runes _ l (Nat.le_refl _) h
theorem valid_wholeL (l : List UInt8) : Lib.validD (wholeL l) = true := valid_enc _ (runes_valid l)
theorem runes_wholeL (l : List UInt8) : runesOf (wholeL l) = runesOf l := runes_enc _ (runes_valid l)
theorem encodeAll_snoc (rs : List Int) (x : Int) : encodeAll (rs ++ [x]) = encodeAll rs ++ Utf8.encode x := by
  unfold encodeAll
  rw [List.foldl_append]; rfl
theorem encodeAll_nat (ns : List Nat) : encodeAll (ns.map fun n : Nat => (n : Int)) = ba (ns.flatMap encB) := by
  induction h : ns.length generalizing ns with
  | zero => obtain rfl := List.eq_nil_of_length_eq_zero h; rfl
  | succ k ih =>
    obtain ⟨ns, n, rfl⟩ : ∃ xs x, ns = xs ++ [x] := ⟨ns.dropLast, ns.getLast (by intro e; subst e; cases h), (List.dropLast_concat_getLast _).symm⟩
    have ih := ih ns (by simpa using h)
    have e : Utf8.encode (n : Int) = ba (encB n) := by
      rw [encB.eq_1]
      generalize Utf8.encode (n : Int) = y
      exact ba_self y
    rw [List.map_append, List.map_cons, List.map_nil, encodeAll_snoc, ih, List.flatMap_append, ← ba_append, e, List.flatMap_cons, List.flatMap_nil, List.append_nil]
end Go.Abs.TB
namespace Go.Abs.TB
open Go Go.Abs Go.Proofs Go.RowKit

theorem globTrue {g : Nat} (h : g < 5) : T.glob g = true := by
  match g, h with
  | 0, _ | 1, _ | 2, _ | 3, _ | 4, _ => rfl
theorem row_get {α : Type} {l : List α} {f : α → AVal} {j : Nat} {x : α} (h : l[j]? = some x) : (l.map f)[j]? = some (f x) := by
  rw [List.getElem?_map, h]; rfl
theorem utf8_tabs {ρ : Mp} {σ : Heap} {w : World} (hH : HRel ρ σ w) (hG : GRel T ρ) (hp : GU σ) : Lib.Utf8Tabs 0 1 w := by
  have h0 : σ[0]? = some (.row firstRow .ro) := hp.1
  have h1 : σ[1]? = some (.row accRow .ro) := hp.2
  refine ⟨fun c hc => ?_, fun i hi => ⟨?_, ?_⟩⟩
  · obtain ⟨v, e, r⟩ := glob_cell hH hG (globTrue (g := 0) (by decide)) h0 (j := c) (row_get (x := c) (by rw [List.getElem?_range hc]))
    simp only [VRel] at r
    rw [e, r]
  · obtain ⟨v, e, r⟩ := glob_cell hH hG (globTrue (g := 1) (by decide)) h1 (j := 2 * i) (row_get (x := 2 * i) (by rw [List.getElem?_range (by omega)]))
    simp only [VRel] at r
    rw [e, r, if_pos (by omega), show 2 * i / 2 = i by omega]
  · obtain ⟨v, e, r⟩ := glob_cell hH hG (globTrue (g := 1) (by decide)) h1 (j := 2 * i + 1) (row_get (x := 2 * i + 1) (by rw [List.getElem?_range (by omega)]))
    simp only [VRel] at r
    rw [e, r, if_neg (by omega), show (2 * i + 1) / 2 = i by omega]
noncomputable def w_unicode_utf8_ValidString (s : ByteArray) (σ : Heap) : Option (Bool × Heap) := wIf (GU σ ∧ s.size ≤ 9223372036854775807) (Lib.validD s.data.toList, σ)
theorem w_unicode_utf8_ValidString_eq {s : ByteArray} {σ : Heap} (h : GU σ) (h2 : s.size ≤ 9223372036854775807) : w_unicode_utf8_ValidString s σ = some (Lib.validD s.data.toList, σ) := wIf_eq ⟨h, h2⟩
theorem ok_unicode_utf8_ValidString : Ok_unicode_utf8_ValidString w_unicode_utf8_ValidString := fun s σ v σ' h => by
  obtain ⟨⟨hp, hs⟩, e⟩ := wIf_some h
  injection e with e1 e2
  subst e1; subst e2
  refine call_below fun ρ ws w hH hG hw => ?_
  simp only [VRels, VRel, tStr] at hw
  obtain ⟨u, us, rfl, rfl, rfl⟩ := hw
  refine (Any.utf8_ValidString Tryd.lays196 s w hs (utf8_tabs hH hG hp)).mono fun e w' ⟨he, hb⟩ => ?_
  exact ⟨_, he, by simp [tBool, VRel], hb⟩

theorem gPow' : Tryd.prog.globalNamed "internal/strconv.uint64pow10" = some 4 := by kernel_rfl
theorem pow10_ints : Lib.pow10Tab = powInts := by decide
theorem pow_tab {ρ : Mp} {σ : Heap} {w : World} (hH : HRel ρ σ w) (hG : GRel T ρ) (hp : GP σ) : Lib.TabIs Tryd.prog w "internal/strconv.uint64pow10" .u64 Lib.pow10Tab := by
  have h4 : σ[4]? = some (.row (powInts.map fun n => .int .u64 n) .ro) := hp
  obtain ⟨ty, fr, hc⟩ := glob_ints hH hG (globTrue (g := 4) (by decide)) h4 rfl
  unfold Lib.TabIs World.var?
  rw [gPow', pow10_ints]
  simp only [Option.bind_some, hc]
def I64 (n : Int) : Prop := -9223372036854775808 ≤ n ∧ n ≤ 9223372036854775807
theorem grow_below (w : World) (k : Nat) (os : Array Obj) : Below w.heap.size w (Go.Sort.grow (w.drewN k) os) :=
  ⟨rfl, rfl, rfl, by show w.heap.size ≤ (w.heap ++ os).size; rw [Array.size_append]; omega, fun j hj => by show (w.heap ++ os)[j]? = w.heap[j]?; exact Array.getElem?_append_left hj⟩
noncomputable def w_strconv_Itoa (n : Int) (σ : Heap) : Option (ByteArray × Heap) := wIf (GP σ ∧ I64 n) (ba (Lib.itoa n), σ)
theorem w_strconv_Itoa_eq {n : Int} {σ : Heap} (h : GP σ) (h2 : I64 n) : w_strconv_Itoa n σ = some (ba (Lib.itoa n), σ) := wIf_eq ⟨h, h2⟩
theorem ok_strconv_Itoa : Ok_strconv_Itoa w_strconv_Itoa := fun n σ v σ' h => by
  obtain ⟨⟨hp, hs⟩, e⟩ := wIf_some h
  injection e with e1 e2
  subst e1; subst e2
  refine call_below fun ρ ws w hH hG hw => ?_
  simp only [VRels, VRel, tInt] at hw
  obtain ⟨u, us, rfl, rfl, rfl⟩ := hw
  refine (Any.strconv_Itoa Tryd.laysM171 n hs.1 hs.2 w (pow_tab hH hG hp)).mono fun e w' ⟨he, k, os, hw⟩ => ?_
  exact ⟨_, he, by simp [tStr, VRel, ba], by rw [hw]; exact grow_below _ k os⟩

/-- strconv.Atoi's answer. -/
def atoiV (s : ByteArray) : Int × Er := match Lib.atoiAll s.data.toList with
  | .ok v => (v, ⟨true⟩)
  | .range => (Lib.atoiSat s.data.toList, ⟨false⟩)
  | _ => (0, ⟨false⟩)
theorem err_cell {ρ : Mp} {σ : Heap} {w : World} (hH : HRel ρ σ w) (hG : GRel T ρ) (hp : GE σ) {g : Nat} (hg : g = 2 ∨ g = 3) : ∃ ev, w.cell? ⟨g, 0, none⟩ = some ev ∧ ∃ te pe, ev = .iface te pe := by
  have hs : σ[g]? = some (.row [.errv false] .ro) := by rcases hg with rfl | rfl <;> first | exact hp.1 | exact hp.2
  obtain ⟨v, e, r⟩ := glob_cell hH hG (globTrue (g := g) (by omega)) hs (j := 0) rfl
  simp only [VRel] at r
  obtain ⟨t, y, r⟩ := r
  exact ⟨v, e, _, _, r⟩
noncomputable def w_strconv_Atoi (s : ByteArray) (σ : Heap) : Option ((Int × Er) × Heap) := wIf (GE σ ∧ s.size ≤ 281474976710656) (atoiV s, σ)
theorem w_strconv_Atoi_eq {s : ByteArray} {σ : Heap} (h : GE σ) (h2 : s.size ≤ 281474976710656) : w_strconv_Atoi s σ = some (atoiV s, σ) := wIf_eq ⟨h, h2⟩
theorem ok_strconv_Atoi : Ok_strconv_Atoi w_strconv_Atoi := fun s σ v σ' h => by
  obtain ⟨⟨hp, hs⟩, e⟩ := wIf_some h
  injection e with e1 e2
  subst e1; subst e2
  refine call_below fun ρ ws w hH hG hw => ?_
  simp only [VRels, VRel, tStr] at hw
  obtain ⟨u, us, rfl, rfl, rfl⟩ := hw
  unfold atoiV
  cases ha : Lib.atoiAll s.data.toList
  · rename_i v
    refine (Any.strconv_Atoi_ok Tryd.laysC172 s (by omega) v ha w).mono fun e w' ⟨he, hw⟩ => ⟨_, he, ?_, ?_⟩
    · simp only [tPair, tInt, tErr, VRel]
      exact ⟨[_, _], rfl, by simp only [VRels, VRel]; exact ⟨_, _, rfl, rfl, _, _, rfl, rfl, rfl⟩⟩
    · rcases hw with rfl | ⟨t, rfl⟩
      · exact Below.refl _ _
      · exact Lib.bytesWorld_below _ _ _
  · obtain ⟨ev, h1, te, pe, h2⟩ := err_cell hH hG hp (g := 2) (.inl rfl)
    refine (Any.strconv_Atoi_syntax Tryd.laysC172 s (by omega) ha ev w h1 (.inr ⟨te, pe, h2⟩)).mono fun e w' ⟨N, he, _, _, hb⟩ => ⟨_, he, ?_, hb⟩
    simp only [tPair, tInt, tErr, VRel]
    exact ⟨[_, _], rfl, by simp only [VRels, VRel]; exact ⟨_, _, rfl, rfl, _, _, rfl, ⟨_, _, rfl⟩, rfl⟩⟩
  · obtain ⟨ev, h1, te, pe, h2⟩ := err_cell hH hG hp (g := 3) (.inr rfl)
    refine (Any.strconv_Atoi_range Tryd.laysC172 s (by omega) ha ev w h1 (.inr ⟨te, pe, h2⟩)).mono fun e w' ⟨N, he, _, _, hb⟩ => ⟨_, he, ?_, hb⟩
    simp only [tPair, tInt, tErr, VRel]
    exact ⟨[_, _], rfl, by simp only [VRels, VRel]; exact ⟨_, _, rfl, rfl, _, _, rfl, ⟨_, _, rfl⟩, rfl⟩⟩
end Go.Abs.TB
namespace Go.Abs.TB
open Go Go.Abs Go.Proofs

theorem ba_data (l : List UInt8) : (ba l).data.toList = l := by simp [ba]
theorem ba_toList (l : List UInt8) : (ba l).toList = l := by rw [ByteArray.toList_eq, ba_data]
theorem ba_extract (l : List UInt8) (a b : Nat) : (ba l).extract a b = ba ((l.drop a).take (b - a)) := by
  apply ByteArray.ext
  apply Array.ext'
  rw [ByteArray.data_extract, Array.toList_extract, ba_data, ba_data, List.extract_eq_take_drop]
theorem ba_from (l : List UInt8) (a : Nat) : (ba l).extract a (ba l).size = ba (l.drop a) := by
  rw [ba_extract, ba_size, List.take_of_length_le (by rw [List.length_drop]; omega)]
theorem ba_to (l : List UInt8) (b : Nat) : (ba l).extract 0 b = ba (l.take b) := by
  rw [ba_extract, List.drop_zero, Nat.sub_zero]
theorem ba_inj {l m : List UInt8} (h : ba l = ba m) : l = m := by
  have := congrArg (fun x : ByteArray => x.data.toList) h
  simpa only [ba_data] using this
theorem ba_nil : (⟨#[]⟩ : ByteArray) = ba [] := rfl
/-! ### json.hex, json.escape -/
def hexI (c : Nat) : Int := if 48 ≤ c ∧ c ≤ 57 then c - 48 else if 97 ≤ c ∧ c ≤ 102 then c - 87 else -1
/-- What stands for a byte behind \, and how many bytes that has. -/
def escL (l : List UInt8) : UInt8 × Nat :=
  match l with
  | [] => (0, 0)
  | c :: _ =>
    if c = 110 then (10, 1) else if c = 114 then (13, 1) else if c = 34 then (34, 1) else if c = 92 then (92, 1)
    else if 5 ≤ l.length ∧ l.take 3 = [117, 48, 48] ∧ 0 ≤ hexI (l.getD 3 0).toNat ∧ 0 ≤ hexI (l.getD 4 0).toNat then (UInt8.ofNat (16 * hexI (l.getD 3 0).toNat + hexI (l.getD 4 0).toNat).toNat, 5) else (0, 0)
def quoteL (l : List UInt8) : List UInt8 := 34 :: ((runesOf l).flatMap signB ++ [34])
theorem quoteB_L (s : ByteArray) : quoteB s = quoteL s.data.toList := by rw [quoteB.eq_1, rsN_runes, quoteL]
/-- The text that is told, and what is behind it. -/
def unqGo : Nat → List UInt8 → Nat → List UInt8 → Option (List UInt8 × List UInt8)
  | 0, _, _, _ => none
  | k + 1, s, i, out =>
    if i < s.length then
      if s.getD i 0 = 34 then (if Lib.validD out = true ∧ quoteL out = s.take (i + 1) then some (out, s.drop (i + 1)) else none)
      else if s.getD i 0 = 92 then (if (escL (s.drop (i + 1))).2 = 0 then none else unqGo k s (i + (escL (s.drop (i + 1))).2 + 1) (out ++ [(escL (s.drop (i + 1))).1]))
      else unqGo k s (i + 1) (out ++ [s.getD i 0])
    else none
def unqL (s : List UInt8) : Option (List UInt8 × List UInt8) := if s.getD 0 0 = 34 then unqGo s.length s 1 [] else none
theorem unqGo_sound : ∀ (k : Nat) (s : List UInt8) (i : Nat) (out : List UInt8) {t r : List UInt8}, unqGo k s i out = some (t, r) → Lib.validD t = true ∧ quoteL t ++ r = s
  | 0, _, _, _, _, _, h => by cases h
  | k + 1, s, i, out, t, r, h => by
    unfold unqGo at h
    split at h
    · split at h
      · split at h
        · rename_i hc
          injection h with h
          injection h with h1 h2
          subst h1; subst h2
          exact ⟨hc.1, by rw [hc.2, List.take_append_drop]⟩
        · cases h
      · split at h
        · split at h
          · cases h
          · exact unqGo_sound k s _ _ h
        · exact unqGo_sound k s _ _ h
    · cases h
theorem unqL_sound {s t r : List UInt8} (h : unqL s = some (t, r)) : Lib.validD t = true ∧ quoteL t ++ r = s := by
  unfold unqL at h
  split at h
  · exact unqGo_sound _ _ _ _ h
  · cases h
/-! ### What was quoted comes back -/
/-- Bytes that are none of the two signs are taken as they are. -/
theorem unqGo_plain : ∀ (bs pre rest out : List UInt8) (k : Nat), (∀ b ∈ bs, b ≠ 34 ∧ b ≠ 92) →
    unqGo (k + bs.length) (pre ++ (bs ++ rest)) pre.length out = unqGo k (pre ++ (bs ++ rest)) (pre.length + bs.length) (out ++ bs)
  | [], pre, rest, out, k, _ => by simp
  | b :: bs, pre, rest, out, k, h => by
    have hb := h b (by simp)
    have ih := unqGo_plain bs (pre ++ [b]) rest (out ++ [b]) k fun c hc => h c (by simp [hc])
    rw [show k + (b :: bs).length = (k + bs.length) + 1 from by rw [List.length_cons]; omega]
    have hg : (pre ++ (b :: bs ++ rest)).getD pre.length 0 = b := by simp [List.getD]
    rw [unqGo, if_pos (by simp), hg, if_neg hb.1, if_neg hb.2]
    simp only [List.append_assoc, List.cons_append, List.nil_append, List.length_append, List.length_cons, List.length_nil] at ih ⊢
    rw [ih]
    congr 1
    omega
theorem unqGo_esc (pre rest out : List UInt8) (es : List UInt8) (k : Nat) (x : UInt8) (h : escL (es ++ rest) = (x, es.length)) (hn : es ≠ []) :
    unqGo (k + 1) (pre ++ (92 :: es ++ rest)) pre.length out = unqGo k (pre ++ (92 :: es ++ rest)) (pre.length + (92 :: es).length) (out ++ [x]) := by
  have hg : (pre ++ (92 :: es ++ rest)).getD pre.length 0 = 92 := by simp [List.getD]
  have hd : (pre ++ (92 :: es ++ rest)).drop (pre.length + 1) = es ++ rest := by
    rw [List.drop_append]
    simp [List.drop_of_length_le]
  have hl := List.length_pos_iff.2 hn
  rw [unqGo, if_pos (by simp), hg, if_neg (by decide), if_pos rfl, hd, h, if_neg (by simpa using hn)]
  congr 1
theorem hexI_hexd : ∀ m : Fin 16, hexI (hexd m.val).toNat = (m.val : Int) := by decide
theorem escL_sign {n : Nat} (rest : List UInt8) (h : n = 34 ∨ n = 92 ∨ n < 32 ∨ n = 127) : ∃ es, signB n = 92 :: es ∧ es ≠ [] ∧ escL (es ++ rest) = (UInt8.ofNat n, es.length) := by
  by_cases h34 : n = 34
  · subst h34; exact ⟨[34], by decide, by simp, by simp [escL]⟩
  by_cases h92 : n = 92
  · subst h92; exact ⟨[92], by decide, by simp, by simp [escL]⟩
  by_cases h10 : n = 10
  · subst h10; exact ⟨[110], by decide, by simp, by simp [escL]⟩
  by_cases h13 : n = 13
  · subst h13; exact ⟨[114], by decide, by simp, by simp [escL]⟩
  · refine ⟨[117, 48, 48, hexd (n / 16), hexd (n % 16)], by unfold signB; rw [if_neg (by omega), if_neg h10, if_neg h13, if_pos (by omega)], by simp, ?_⟩
    have e1 := hexI_hexd ⟨n / 16, by omega⟩
    have e2 := hexI_hexd ⟨n % 16, by omega⟩
    simp only at e1 e2
    simp only [escL, List.cons_append, List.nil_append, List.getD_cons_zero, List.getD_cons_succ, e1, e2]
    rw [if_neg (by decide), if_neg (by decide), if_neg (by decide), if_neg (by decide), if_pos ⟨by simp, rfl, by omega, by omega⟩]
    simp only [Prod.mk.injEq]
    refine ⟨?_, rfl⟩
    congr 1
    omega
theorem enc_plain {n : Nat} (hv : Utf8.valid (n : Int) = true) (h34 : n ≠ 34) (h92 : n ≠ 92) : ∀ b ∈ encB n, b ≠ 34 ∧ b ≠ 92 := by
  have hv' := valid_iff.1 hv
  have ne : ∀ m : Nat, m < 256 → m ≠ 34 → m ≠ 92 → UInt8.ofNat m ≠ 34 ∧ UInt8.ofNat m ≠ 92 := fun m hm h1 h2 => by
    constructor
    · intro e
      have := congrArg UInt8.toNat e
      rw [toNat_ofNat hm] at this
      exact h1 this
    · intro e
      have := congrArg UInt8.toNat e
      rw [toNat_ofNat hm] at this
      exact h2 this
  by_cases h1 : n < 128
  · rw [enc1 h1]
    simp only [List.mem_cons, List.not_mem_nil, or_false, forall_eq]
    exact ne n (by omega) h34 h92
  by_cases h2 : n < 2048
  · rw [enc2 (by omega) h2]
    simp only [List.mem_cons, List.not_mem_nil, or_false, forall_eq_or_imp, forall_eq]
    exact ⟨ne _ (by omega) (by omega) (by omega), ne _ (by omega) (by omega) (by omega)⟩
  by_cases h3 : n < 65536
  · rw [enc3 (by omega) h3 hv]
    simp only [List.mem_cons, List.not_mem_nil, or_false, forall_eq_or_imp, forall_eq]
    exact ⟨ne _ (by omega) (by omega) (by omega), ne _ (by omega) (by omega) (by omega), ne _ (by omega) (by omega) (by omega)⟩
  · rw [enc4 (by omega) hv]
    simp only [List.mem_cons, List.not_mem_nil, or_false, forall_eq_or_imp, forall_eq]
    exact ⟨ne _ (by omega) (by omega) (by omega), ne _ (by omega) (by omega) (by omega), ne _ (by omega) (by omega) (by omega), ne _ (by omega) (by omega) (by omega)⟩
/-- One rune. -/
theorem unqGo_rune {n : Nat} (hv : Utf8.valid (n : Int) = true) (pre rest out : List UInt8) (k : Nat) :
    ∃ k', k ≤ k' ∧ unqGo (k + (signB n).length) (pre ++ (signB n ++ rest)) pre.length out = unqGo k' (pre ++ (signB n ++ rest)) (pre.length + (signB n).length) (out ++ encB n) := by
  by_cases h : n = 34 ∨ n = 92 ∨ n < 32 ∨ n = 127
  · obtain ⟨es, h1, h2, h3⟩ := escL_sign rest h
    have hl := List.length_pos_iff.2 h2
    refine ⟨k + es.length, by omega, ?_⟩
    rw [h1, show k + (92 :: es).length = (k + es.length) + 1 from by rw [List.length_cons]; omega]
    rw [enc1 (by omega)]
    exact unqGo_esc pre rest out es _ _ h3 h2
  · have hs : signB n = encB n := by
      unfold signB
      rw [if_neg (by omega), if_neg (by omega), if_neg (by omega), if_neg (by omega)]
    rw [hs]
    exact ⟨k, Nat.le_refl _, unqGo_plain _ _ _ _ _ (enc_plain hv (by omega) (by omega))⟩
theorem unqGo_back : ∀ (ns : List Nat), (∀ n ∈ ns, Utf8.valid (n : Int) = true) → ∀ (done : List Nat), (∀ n ∈ done, Utf8.valid (n : Int) = true) → ∀ (pre more : List UInt8) (k : Nat), pre = 34 :: done.flatMap signB → (ns.flatMap signB).length < k →
    unqGo k (pre ++ (ns.flatMap signB ++ 34 :: more)) pre.length (done.flatMap encB) = some ((done ++ ns).flatMap encB, more)
  | [], _, done, hd, pre, more, k, hp, hk => by
    obtain ⟨k, rfl⟩ : ∃ j, k = j + 1 := ⟨k - 1, by omega⟩
    have hg : (pre ++ (34 :: more)).getD pre.length 0 = 34 := by simp [List.getD]
    simp only [List.flatMap_nil, List.nil_append, List.append_nil]
    rw [unqGo, if_pos (by simp), hg, if_pos rfl, if_pos]
    · congr 2
      rw [List.drop_append]
      simp [List.drop_of_length_le]
    · refine ⟨valid_enc _ hd, ?_⟩
      rw [quoteL, runes_enc _ hd, List.take_append, ← List.cons_append, ← hp, List.take_of_length_le (by omega)]
      simp
  | n :: ns, h, done, hd, pre, more, k, hp, hk => by
    have hv := h n (by simp)
    rw [List.flatMap_cons, List.length_append] at hk
    obtain ⟨j, rfl⟩ : ∃ j, k = j + (signB n).length := ⟨k - (signB n).length, by omega⟩
    obtain ⟨k', hk', e⟩ := unqGo_rune hv pre (ns.flatMap signB ++ 34 :: more) (done.flatMap encB) j
    have ih := unqGo_back ns (fun m hm => h m (by simp [hm])) (done ++ [n]) (fun m hm => by
      rcases List.mem_append.1 hm with hm | hm
      · exact hd m hm
      · simp at hm; subst hm; exact hv) (pre ++ signB n) more k' (by rw [hp, List.flatMap_append]; simp) (by omega)
    rw [List.flatMap_cons, List.append_assoc, e]
    simp only [List.flatMap_append, List.flatMap_cons, List.flatMap_nil, List.append_nil, List.append_assoc, List.length_append, List.cons_append, List.nil_append] at ih ⊢
    exact ih
theorem unqL_back (l more : List UInt8) : unqL (quoteL l ++ more) = some (wholeL l, more) := by
  have := unqGo_back (runesOf l) (runes_valid l) [] (fun n h => by cases h) [34] more (quoteL l ++ more).length (by simp) (by simp [quoteL]; omega)
  unfold unqL
  rw [if_pos (by simp [quoteL])]
  rw [show quoteL l ++ more = [34] ++ ((runesOf l).flatMap signB ++ 34 :: more) by simp [quoteL]] at this ⊢
  exact this
end Go.Abs.TB
namespace Go.Abs.TB
open Go Go.Abs Go.Proofs

noncomputable def w_json_hex (c : Int) (σ : Heap) : Option (Int × Heap) := wIf (0 ≤ c ∧ c < 256) (hexI c.toNat, σ)
theorem w_json_hex_eq {c : Nat} {σ : Heap} (h : c < 256) : w_json_hex (c : Int) σ = some (hexI c, σ) := by
  have := wIf_eq (r := (hexI ((c : Int)).toNat, σ)) (show 0 ≤ (c : Int) ∧ (c : Int) < 256 by omega)
  rw [Int.toNat_natCast] at this
  exact this
theorem hex_num : ∀ c : Fin 256, (48 ≤ c.val → c.val ≤ 57 → IntKind.i64.wrap (IntKind.u8.wrap (((c.val : Nat) : Int) - 48)) = ((c.val : Nat) : Int) - 48) ∧
    (97 ≤ c.val → c.val ≤ 102 → IntKind.i64.wrap ((IntKind.i64.wrap (IntKind.u8.wrap (((c.val : Nat) : Int) - 97))) + 10) = ((c.val : Nat) : Int) - 87) := by decide +kernel
theorem ok_json_hex : Ok_json_hex w_json_hex := fun c σ v σ' h => by
  obtain ⟨hc, e⟩ := wIf_some h
  injection e with e1 e2
  subst e1; subst e2
  obtain ⟨n, rfl⟩ : ∃ n : Nat, c = (n : Int) := ⟨c.toNat, by omega⟩
  have hn : n < 256 := by omega
  obtain ⟨d1, d2⟩ := hex_num ⟨n, hn⟩
  simp only at d1 d2
  refine call_ok ok known0_ok (L := 1) (n := 2) ((json_hex_eq 1 (n : Int) _ _).trans ?_)
  rw [Int.toNat_natCast]
  unfold hexI
  by_cases h1 : 48 ≤ n
  · rw [show decide ((n : Int) ≥ 48) = true by simp; omega, cond_true]
    by_cases h2 : n ≤ 57
    · rw [show decide ((n : Int) ≤ 57) = true by simp; omega, cond_true, d1 h1 h2, if_pos ⟨h1, h2⟩]; rfl
    · rw [show decide ((n : Int) ≤ 57) = false by simp; omega, cond_false, if_neg (by omega)]
      by_cases h3 : 97 ≤ n
      · rw [show decide ((n : Int) ≥ 97) = true by simp; omega, cond_true]
        by_cases h4 : n ≤ 102
        · rw [show decide ((n : Int) ≤ 102) = true by simp; omega, cond_true, d2 h3 h4, if_pos ⟨h3, h4⟩]; rfl
        · rw [show decide ((n : Int) ≤ 102) = false by simp; omega, cond_false, if_neg (by omega)]; rfl
      · rw [show decide ((n : Int) ≥ 97) = false by simp; omega, cond_false, if_neg (by omega)]; rfl
  · rw [show decide ((n : Int) ≥ 48) = false by simp; omega, cond_false, if_neg (by omega), show decide ((n : Int) ≥ 97) = false by simp; omega, cond_false, if_neg (by omega)]; rfl
theorem hexI_lt (c : Nat) : hexI c < 16 ∧ -1 ≤ hexI c := by
  unfold hexI
  split
  · omega
  · split <;> omega
noncomputable def w_json_escape (s : ByteArray) (σ : Heap) : Option ((Int × Int) × Heap) := some ((((escL s.data.toList).1.toNat : Int), ((escL s.data.toList).2 : Int)), σ)
noncomputable def c_json_escape : C_json_escape := { json_hex := w_json_hex }
theorem beq_list {a b : List UInt8} (h : a = b) : (a == b) = true := by subst h; exact beq_self_eq_true a
theorem bne_list {a b : List UInt8} (h : a ≠ b) : (a == b) = false := beq_eq_false_iff_ne.2 h
theorem byte_eq (c : UInt8) (n : Nat) (hn : n < 256) : (((c.toNat : Nat) : Int) == ((n : Nat) : Int)) = decide (c = UInt8.ofNat n) := by
  by_cases h : c = UInt8.ofNat n
  · rw [decide_eq_true h, h, toNat_ofNat hn, beq_self_eq_true]
  · rw [decide_eq_false h, beq_eq_false_iff_ne]
    intro e
    apply h
    apply UInt8.toNat_inj.1
    rw [toNat_ofNat hn]; omega
theorem frz_frz' (σ : Heap) : Heap.back σ σ.frz = σ := by
  have h := back_frz_append' σ []
  rw [List.append_nil, List.map_nil, List.append_nil] at h
  exact h
theorem esc_num : ∀ a b : Fin 16, IntKind.u8.wrap (IntKind.i64.wrap ((IntKind.i64.wrap (16 * ((a.val : Nat) : Int))) + ((b.val : Nat) : Int))) = (((UInt8.ofNat (16 * ((a.val : Nat) : Int) + ((b.val : Nat) : Int)).toNat).toNat : Nat) : Int) := by decide +kernel
theorem ok_json_escape : Ok_json_escape w_json_escape := fun s σ v σ' h => by
  injection h with h
  injection h with e1 e2
  subst e1; subst e2
  obtain ⟨l, rfl⟩ : ∃ l, s = ba l := ⟨_, ba_self s⟩
  refine call_ok ok (K_json_escape c_json_escape ok_json_hex) (L := 1) (n := 2) ((json_escape_eq c_json_escape 1 (ba l) σ _).trans ?_)
  have p1 : c_json_escape.json_hex = w_json_hex := rfl
  simp only [ba_nil, ba_toList, ba_data, ba_size, ba_to, p1]
  cases l with
  | nil => rfl
  | cons c r =>
    rw [bne_list (by simp), cond_false]
    simp only [List.getD_cons_zero, show decide ((0 : Int) < ((c :: r).length : Int)) = true by rw [decide_eq_true_eq, List.length_cons]; omega, cond_true]
    rw [show (110 : Int) = ((110 : Nat) : Int) from rfl, byte_eq c 110 (by decide), show (114 : Int) = ((114 : Nat) : Int) from rfl, byte_eq c 114 (by decide), show (34 : Int) = ((34 : Nat) : Int) from rfl, byte_eq c 34 (by decide), show (92 : Int) = ((92 : Nat) : Int) from rfl, byte_eq c 92 (by decide)]
    have hesc : escL (c :: r) = if c = 110 then (10, 1) else if c = 114 then (13, 1) else if c = 34 then (34, 1) else if c = 92 then (92, 1)
        else if 5 ≤ (c :: r).length ∧ (c :: r).take 3 = [117, 48, 48] ∧ 0 ≤ hexI ((c :: r).getD 3 0).toNat ∧ 0 ≤ hexI ((c :: r).getD 4 0).toNat then (UInt8.ofNat (16 * hexI ((c :: r).getD 3 0).toNat + hexI ((c :: r).getD 4 0).toNat).toNat, 5) else (0, 0) := rfl
    rw [hesc]
    by_cases h1 : c = 110
    · subst h1; rfl
    rw [if_neg h1, decide_eq_false (show ¬ c = UInt8.ofNat 110 from h1), cond_false]
    by_cases h2 : c = 114
    · subst h2; rfl
    rw [if_neg h2, decide_eq_false (show ¬ c = UInt8.ofNat 114 from h2), cond_false]
    by_cases h3 : c = 34
    · subst h3; rfl
    rw [if_neg h3, decide_eq_false (show ¬ c = UInt8.ofNat 34 from h3), cond_false]
    by_cases h4 : c = 92
    · subst h4; rfl
    rw [if_neg h4, decide_eq_false (show ¬ c = UInt8.ofNat 92 from h4), cond_false]
    by_cases h5 : 5 ≤ (c :: r).length
    · rw [show decide (((c :: r).length : Int) ≥ 5) = true by simp at h5 ⊢; omega, cond_true, show decide ((3 : Int) ≤ ((c :: r).length : Int)) = true by simp at h5 ⊢; omega, cond_true]
      by_cases h6 : (c :: r).take 3 = [117, 48, 48]
      · have b3 := (c :: r).getD 3 0 |>.toNat_lt
        have b4 := (c :: r).getD 4 0 |>.toNat_lt
        rw [show (⟨#[117, 48, 48]⟩ : ByteArray).toList = [117, 48, 48] from ba_toList [117, 48, 48], beq_list h6, cond_true, show decide ((3 : Int) < ((c :: r).length : Int)) = true by simp at h5 ⊢; omega, cond_true, show decide ((4 : Int) < ((c :: r).length : Int)) = true by simp at h5 ⊢; omega]
        have g3 := hexI_lt ((c :: r).getD 3 0).toNat
        have g4 := hexI_lt ((c :: r).getD 4 0).toNat
        simp only [w_json_hex_eq b3, w_json_hex_eq b4, Option.bind_some, cond_true, frz_frz']
        generalize hexI ((c :: r).getD 3 0).toNat = a at g3 ⊢
        generalize hexI ((c :: r).getD 4 0).toNat = b at g4 ⊢
        by_cases h7 : 0 ≤ a
        · rw [show decide (a ≥ 0) = true by simp; omega, cond_true]
          by_cases h8 : 0 ≤ b
          · rw [show decide (b ≥ 0) = true by simp; omega, cond_true, if_pos ⟨h5, h6, h7, h8⟩]
            have e := esc_num ⟨a.toNat, by omega⟩ ⟨b.toNat, by omega⟩
            simp only [Int.toNat_of_nonneg h7, Int.toNat_of_nonneg h8] at e
            rw [e]; rfl
          · rw [show decide (b ≥ 0) = false by simp; omega, cond_false, if_neg (fun hh => h8 hh.2.2.2)]; rfl
        · rw [show decide (a ≥ 0) = false by simp; omega, cond_false, if_neg (fun hh => h7 hh.2.2.1)]; rfl
      · rw [show (⟨#[117, 48, 48]⟩ : ByteArray).toList = [117, 48, 48] from ba_toList [117, 48, 48], bne_list h6, cond_false, if_neg (fun hh => h6 hh.2.1)]; rfl
    · rw [show decide (((c :: r).length : Int) ≥ 5) = false by simp at h5 ⊢; omega, cond_false, if_neg (fun hh => h5 hh.1)]; rfl
/-! ### Unquote -/
def unqV (s : ByteArray) : ByteArray × ByteArray × Bool := match unqL s.data.toList with
  | some (t, r) => (ba t, ba r, true)
  | none => (ba [], ba [], false)
noncomputable def c_json_Unquote : C_json_Unquote := { unicode_utf8_ValidString := w_unicode_utf8_ValidString, json_Quote := w_json_Quote, json_escape := w_json_escape }
def unqO (x : Option (List UInt8 × List UInt8)) : AVal := match x with
  | some (t, r) => .tuple [.str (ba t), .str (ba r), .bool true]
  | none => .tuple [.str (ba []), .str (ba []), .bool false]
theorem escL_le (l : List UInt8) : (escL l).2 ≤ l.length ∧ (escL l).2 ≤ 5 := by
  cases l with
  | nil => simp [escL]
  | cons c r =>
    simp only [escL]
    repeat' split
    all_goals first | (simp; done) | (rename_i h; exact ⟨h.1, Nat.le_refl _⟩)
theorem Unquote_loop {L : Nat} {l : List UInt8} {σ0 : Heap} (hp : GU σ0) (hl : l.length ≤ 1000000) :
    ∀ (k i m : Nat) (out : Sl) (σ : Heap) (ys : List UInt8), i ≤ l.length → l.length < i + k → k < m → Mine eU8 σ0 out σ ys → ys.length ≤ i →
      ∃ σ1, σ0 <+: σ1 ∧ json_Unquote_L5 (R := AVal × Heap) c_json_Unquote L m (ba l) out (i : Int) σ (fun v σ => some (v, σ)) = some (unqO (unqGo k l i ys), σ1)
  | k, i, 0, _, _, _, _, _, h, _, _ => by omega
  | 0, i, m + 1, out, σ, ys, hi0, hk, hm, ho, hy => by omega
  | k + 1, i, m + 1, out, σ, ys, hi0, hk, hm, ho, hy => by
    have p1 : c_json_Unquote.unicode_utf8_ValidString = w_unicode_utf8_ValidString := rfl
    have p2 : c_json_Unquote.json_Quote = w_json_Quote := rfl
    have p3 : c_json_Unquote.json_escape = w_json_escape := rfl
    rw [json_Unquote_L5_eq, p1, p2, p3]
    simp only [ba_size, ba_data]
    by_cases hi : i < l.length
    · rw [lt_true hi, cond_true, dec0, Bool.true_and, cond_true, Int.toNat_natCast]
      rw [show (34 : Int) = ((34 : Nat) : Int) from rfl, byte_eq _ 34 (by decide), show (92 : Int) = ((92 : Nat) : Int) from rfl, byte_eq _ 92 (by decide)]
      rw [unqGo, if_pos hi, wrap_i64_succ i (by omega)]
      generalize hc : l.getD i 0 = c
      by_cases h34 : c = 34
      · rw [if_pos h34, decide_eq_true (show c = UInt8.ofNat 34 from h34), cond_true]
        have hr : σ.read out.b out.o out.n 1 = some (eU8.all ys) := (ho.own.is (by omega)).read
        rw [hr, Option.bind_some, bytes_all, Option.bind_some, show (⟨ys.toArray⟩ : ByteArray) = ba ys from rfl]
        have hpσ : GU σ := hp.pre ho.pre
        rw [w_unicode_utf8_ValidString_eq hpσ (by rw [ba_size]; omega), Option.bind_some, ba_data]
        dsimp only
        cases hv : Lib.validD ys with
        | false => rw [Bool.not_false, cond_true, if_neg (by simp)]; exact ⟨σ, ho.pre, rfl⟩
        | true =>
          rw [Bool.not_true, cond_false, w_json_Quote_eq (by rw [ba_size]; omega), Option.bind_some]
          dsimp only
          rw [show decide ((0 : Int) ≤ ((i + 1 : Nat) : Int)) = true by simp; omega, Bool.true_and, show decide (((i + 1 : Nat) : Int) ≤ (l.length : Int)) = true by simp; omega, cond_true, Int.toNat_natCast, ba_to, quoteB_L, ba_data, ba_toList, ba_toList, frz_frz']
          by_cases hq : quoteL ys = l.take (i + 1)
          · rw [beq_list hq, Bool.not_true, cond_false, Bool.true_and, show decide ((l.length : Int) ≤ (l.length : Int)) = true by simp, cond_true, if_pos ⟨rfl, hq⟩]
            refine ⟨σ, ho.pre, ?_⟩
            have := ba_from l (i + 1)
            rw [ba_size] at this
            rw [this]; rfl
          · rw [bne_list hq, Bool.not_false, cond_true, if_neg (fun hh => hq hh.2)]
            exact ⟨σ, ho.pre, rfl⟩
      · rw [if_neg h34, decide_eq_false (show ¬ c = UInt8.ofNat 34 from h34), cond_false]
        by_cases h92 : c = 92
        · rw [if_pos h92, decide_eq_true (show c = UInt8.ofNat 92 from h92), cond_true]
          rw [show decide ((0 : Int) ≤ ((i + 1 : Nat) : Int)) = true by simp; omega, Bool.true_and, show decide (((i + 1 : Nat) : Int) ≤ (l.length : Int)) = true by simp; omega, Bool.true_and, show decide ((l.length : Int) ≤ (l.length : Int)) = true by simp, cond_true, Int.toNat_natCast]
          have := ba_from l (i + 1)
          rw [ba_size] at this
          rw [this]
          simp only [w_json_escape, Option.bind_some, ba_data]
          have hle := escL_le (l.drop (i + 1))
          rw [List.length_drop] at hle
          generalize escL (l.drop (i + 1)) = q at hle ⊢
          by_cases h0 : q.2 = 0
          · rw [if_pos h0, h0, show (((0 : Nat) : Int) == 0) = true from rfl, cond_true]
            exact ⟨σ, ho.pre, rfl⟩
          · rw [if_neg h0, show (((q.2 : Nat) : Int) == 0) = false by rw [beq_eq_false_iff_ne]; omega, cond_false]
            obtain ⟨p, σ', a1, a2⟩ := ho.append (zs := [q.1]) (bytes := 1) (vs := [.int .u8 (q.1.toNat : Int)]) (k := 1) rfl rfl (by simp; omega) (by simp; omega)
            have a1' : σ.append out.b out.o out.n 1 1 [.int .u8 (q.1.toNat : Int)] 1 = some (p, σ') := a1
            rw [a1', Option.bind_some]
            have ew : IntKind.i64.wrap (IntKind.i64.wrap ((i : Int) + (q.2 : Int)) + 1) = ((i + q.2 + 1 : Nat) : Int) := by
              have e1 : IntKind.i64.wrap ((i : Int) + (q.2 : Int)) = ((i + q.2 : Nat) : Int) := by
                have := wrap_i64_succ (i + q.2 - 1) (by omega)
                rw [show (((i + q.2 - 1 : Nat) : Int) + 1) = (i : Int) + (q.2 : Int) by omega, show i + q.2 - 1 + 1 = i + q.2 by omega] at this
                exact this
              rw [e1, wrap_i64_succ _ (by omega)]
            rw [ew]
            exact Unquote_loop hp hl k (i + q.2 + 1) m ⟨p.1, p.2.1, p.2.2⟩ σ' _ (by omega) (by omega) (by omega) a2 (by simp; omega)
        · rw [if_neg h92, decide_eq_false (show ¬ c = UInt8.ofNat 92 from h92), cond_false]
          obtain ⟨p, σ', a1, a2⟩ := ho.append (zs := [c]) (bytes := 1) (vs := [.int .u8 (c.toNat : Int)]) (k := 1) rfl rfl (by simp; omega) (by simp; omega)
          have a1' : σ.append out.b out.o out.n 1 1 [.int .u8 (c.toNat : Int)] 1 = some (p, σ') := a1
          rw [a1', Option.bind_some]
          exact Unquote_loop hp hl k (i + 1) m ⟨p.1, p.2.1, p.2.2⟩ σ' _ (by omega) (by omega) (by omega) a2 (by simp; omega)
    · rw [lt_false hi, cond_false, unqGo, if_neg hi]
      exact ⟨σ, ho.pre, rfl⟩
theorem unqGo_fuel : ∀ (k k' : Nat) (l : List UInt8) (i : Nat) (out : List UInt8), l.length < i + k → l.length < i + k' → unqGo k l i out = unqGo k' l i out
  | 0, 0, _, _, _, _, _ => rfl
  | 0, k' + 1, l, i, out, h, _ => by rw [unqGo, unqGo, if_neg (by omega)]
  | k + 1, 0, l, i, out, _, h => by rw [unqGo, unqGo, if_neg (by omega)]
  | k + 1, k' + 1, l, i, out, h, h' => by
    rw [unqGo, unqGo, unqGo_fuel k k' l (i + 1) _ (by omega) (by omega), unqGo_fuel k k' l (i + (escL (l.drop (i + 1))).2 + 1) _ (by omega) (by omega)]
noncomputable def w_json_Unquote (s : ByteArray) (σ : Heap) : Option ((ByteArray × ByteArray × Bool) × Heap) := wIf (GU σ ∧ s.size ≤ 1000000) (unqV s, σ)
theorem w_json_Unquote_eq {s : ByteArray} {σ : Heap} (h : GU σ) (h2 : s.size ≤ 1000000) : w_json_Unquote s σ = some (unqV s, σ) := wIf_eq ⟨h, h2⟩
theorem unqO_eq (s : ByteArray) : unqO (unqL s.data.toList) = (tTrip tStr tStr tBool).av (unqV s) := by
  unfold unqV
  cases unqL s.data.toList with
  | none => rfl
  | some q => obtain ⟨t, r⟩ := q; rfl
theorem ok_json_Unquote : Ok_json_Unquote w_json_Unquote := fun s σ v σ' h => by
  obtain ⟨⟨hp, hs⟩, e⟩ := wIf_some h
  injection e with e1 e2
  subst e1; subst e2
  obtain ⟨l, rfl⟩ : ∃ l, s = ba l := ⟨_, ba_self s⟩
  rw [ba_size] at hs
  have p : ∃ σ1, σ <+: σ1 ∧ callC (R := AVal × Heap) T (O_json_Unquote c_json_Unquote) (l.length + 2) 2 20 [.str (ba l)] σ (fun v σ => some (v, σ)) = some (unqO (unqL l), σ1) := by
    rw [json_Unquote_eq]
    simp only [ba_nil, ba_toList, ba_data, ba_size]
    cases l with
    | nil => exact ⟨σ, List.prefix_refl _, rfl⟩
    | cons c r =>
      rw [bne_list (by simp), cond_false, show decide ((0 : Int) < ((c :: r).length : Int)) = true by rw [decide_eq_true_eq, List.length_cons]; omega, cond_true, List.getD_cons_zero]
      unfold unqL
      rw [List.getD_cons_zero]
      by_cases h34 : c = 34
      · rw [if_pos h34, h34, show (((((34 : UInt8)).toNat : Nat) : Int) != 34) = false from rfl, cond_false]
        subst h34
        obtain ⟨σ1, g1, g2⟩ := Unquote_loop (L := (34 :: r).length + 2) hp hs ((34 :: r).length + 1) 1 ((34 :: r).length + 2) ⟨none, 0, 0⟩ σ [] (by simp) (by omega) (by omega) (Mine.start σ) (by simp)
        refine ⟨σ1, g1, ?_⟩
        rw [unqGo_fuel (34 :: r).length ((34 :: r).length + 1) _ _ _ (by omega) (by omega)]
        exact g2
      · rw [if_neg h34, show ((((c.toNat : Nat) : Int)) != 34) = true by
          rw [bne, show (34 : Int) = ((34 : Nat) : Int) from rfl, byte_eq c 34 (by decide), decide_eq_false (show ¬ c = UInt8.ofNat 34 from h34)]; rfl, cond_true]
        exact ⟨σ, List.prefix_refl _, rfl⟩
  obtain ⟨σ1, g1, g2⟩ := p
  rw [← unqO_eq, ba_data]
  refine call_gc0 (call_ok ok (K_json_Unquote c_json_Unquote ok_json_Quote ok_unicode_utf8_ValidString ok_json_escape) g2) (fun b hb => get_pre g1 hb) ?_
  unfold unqO
  split <;> exact ⟨trivial, trivial, trivial, trivial⟩
end Go.Abs.TB
namespace Go.Abs.TB
open Go Go.Abs Go.Proofs

theorem runesA_nat (s : ByteArray) : ∀ (k i : Nat), runesA s k i = (rsN s k i).map fun n : Nat => (n : Int)
  | 0, _ => rfl
  | k + 1, i => by
    by_cases h : i < s.size
    · rw [rsN_step h, runesA, if_pos h, List.map_cons, ← runesA_nat s k]; rfl
    · rw [rsN_end h, runesA, if_neg h]; rfl
theorem runesA_of (s : ByteArray) : runesA s s.size 0 = (runesOf s.data.toList).map fun n : Nat => (n : Int) := by rw [runesA_nat, rsN_runes]
theorem runesOf_len (l : List UInt8) : (runesOf l).length ≤ l.length := by
  have := rsN_len (ba l) (ba l).size 0
  rw [rsN_runes, ba_data, ba_size] at this
  exact this
theorem i32_all (rs : List Int) : (rs.map fun n => AVal.int .i32 n) = eI32.all rs := by
  induction rs with
  | nil => rfl
  | cons x xs ih => rw [List.map_cons, ih, El.all_cons]; rfl
theorem read_runes {σ : Heap} {rs : List Int} : Heap.read (σ ++ [.row (eI32.all rs) .rw]) (some σ.length) 0 rs.length 1 = some (eI32.all rs) := by
  refine read_new ?_
  rw [← i32_all, List.length_map]
noncomputable def w_law03_whole (s : ByteArray) (σ : Heap) : Option (ByteArray × Heap) := wIf (s.size ≤ 100000000) (ba (wholeL s.data.toList), σ)
theorem w_law03_whole_eq {s : ByteArray} {σ : Heap} (h : s.size ≤ 100000000) : w_law03_whole s σ = some (ba (wholeL s.data.toList), σ) := wIf_eq h
theorem ok_law03_whole : Ok_law03_whole w_law03_whole := fun s σ v σ' h => by
  obtain ⟨hs, e⟩ := wIf_some h
  injection e with e1 e2
  subst e1; subst e2
  have p : callC (R := AVal × Heap) T known0 1 2 21 [.str s] σ (fun v σ => some (v, σ)) = some (.str (ba (wholeL s.data.toList)), σ ++ [.row (eI32.all (runesA s s.size 0)) .rw]) := by
    rw [law03_whole_eq, decide_eq_true (show s.size ≤ 70368744177664 by omega), cond_true]
    simp only [alloc]
    rw [i32_all, read_runes, Option.bind_some, runes_all, Option.bind_some, runesA_of, encodeAll_nat]
    rfl
  exact call_gc0 (call_ok ok known0_ok p) (fun b hb => get_pre (pre_push ..) hb) trivial
theorem hexd_ok : ∀ m : Fin 16, 32 ≤ (hexd m.val).toNat ∧ (hexd m.val).toNat ≠ 127 := by decide
theorem sign_ok {n : Nat} (hv : Utf8.valid (n : Int) = true) : ∀ b ∈ signB n, 32 ≤ b.toNat ∧ b.toNat ≠ 127 := by
  have hv' := valid_iff.1 hv
  have ne : ∀ m : Nat, m < 256 → 32 ≤ m → m ≠ 127 → 32 ≤ (UInt8.ofNat m).toNat ∧ (UInt8.ofNat m).toNat ≠ 127 := fun m hm h1 h2 => by rw [toNat_ofNat hm]; exact ⟨h1, h2⟩
  unfold signB
  split
  · simp only [List.mem_cons, List.not_mem_nil, or_false, forall_eq_or_imp, forall_eq]
    exact ⟨by decide, ne _ (by omega) (by omega) (by omega)⟩
  · split
    · decide
    · split
      · decide
      · split
        · have a := hexd_ok ⟨n / 16, by omega⟩
          have b := hexd_ok ⟨n % 16, by omega⟩
          simp only [List.mem_cons, List.not_mem_nil, or_false, forall_eq_or_imp, forall_eq]
          exact ⟨by decide, by decide, by decide, by decide, a, b⟩
        · by_cases h1 : n < 128
          · rw [enc1 h1]
            simp only [List.mem_cons, List.not_mem_nil, or_false, forall_eq]
            exact ne n (by omega) (by omega) (by omega)
          by_cases h2 : n < 2048
          · rw [enc2 (by omega) h2]
            simp only [List.mem_cons, List.not_mem_nil, or_false, forall_eq_or_imp, forall_eq]
            exact ⟨ne _ (by omega) (by omega) (by omega), ne _ (by omega) (by omega) (by omega)⟩
          by_cases h3 : n < 65536
          · rw [enc3 (by omega) h3 hv]
            simp only [List.mem_cons, List.not_mem_nil, or_false, forall_eq_or_imp, forall_eq]
            exact ⟨ne _ (by omega) (by omega) (by omega), ne _ (by omega) (by omega) (by omega), ne _ (by omega) (by omega) (by omega)⟩
          · rw [enc4 (by omega) hv]
            simp only [List.mem_cons, List.not_mem_nil, or_false, forall_eq_or_imp, forall_eq]
            exact ⟨ne _ (by omega) (by omega) (by omega), ne _ (by omega) (by omega) (by omega), ne _ (by omega) (by omega) (by omega), ne _ (by omega) (by omega) (by omega)⟩
theorem quote_ok (l : List UInt8) : ∀ b ∈ quoteL l, 32 ≤ b.toNat ∧ b.toNat ≠ 127 := fun b hb => by
  unfold quoteL at hb
  simp only [List.mem_cons, List.mem_append, List.mem_flatMap, List.not_mem_nil, or_false] at hb
  rcases hb with rfl | ⟨n, hn, hb⟩ | rfl
  · decide
  · exact sign_ok (runes_valid l n hn) b hb
  · decide
theorem quoteL_len (l : List UInt8) : (quoteL l).length ≤ 6 * l.length + 2 := by
  have := flat_len (runesOf l)
  have := runesOf_len l
  unfold quoteL
  rw [List.length_cons, List.length_append, List.length_cons, List.length_nil]
  omega
theorem encs_len : ∀ ns : List Nat, (ns.flatMap encB).length ≤ 4 * ns.length
  | [] => by simp
  | n :: ns => by
    have := (encB_len n).2
    have := encs_len ns
    rw [List.flatMap_cons, List.length_append, List.length_cons]; omega
theorem wholeL_len (l : List UInt8) : (wholeL l).length ≤ 4 * l.length := by
  have := encs_len (runesOf l)
  have := runesOf_len l
  unfold wholeL; omega
theorem quoteL_whole (l : List UInt8) : quoteL (wholeL l) = quoteL l := by unfold quoteL; rw [runes_wholeL]
end Go.Abs.TB
