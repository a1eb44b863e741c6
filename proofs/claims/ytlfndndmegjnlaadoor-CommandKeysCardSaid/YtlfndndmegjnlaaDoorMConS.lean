/-
Seat d: texts, words, the library's contracts, number, pair, key.
Contracts of Command.bound, Command.fill, Parse.
Contract of Parse; the standard table; the law's own fit.
Contracts of Standard, Table.Find, the law's own fit.
Contracts of the reference: Word, number, pair, behind, Parse.
Contracts of the reference's behind and Parse.
The reference's Parse; the two parsers tell the same; CommandParses answers true.
Contract of Print; what is parsed is printed as it was; CommandAny answers true.
What is parsed is printed as it was; CommandAny answers true.
-/
import Derived.Test.YtlfndndmegjnlaaDoorMConR
import Derived.Test.YtlfndndmegjnlaaDoorMAd
import Derived.Test.YtlfndndmegjnlaaDoorShD
import Derived.Test.YtlfndndmegjnlaaDoorEqD0
import Derived.Test.YtlfndndmegjnlaaDoorEqD1
import Derived.Test.YtlfndndmegjnlaaDoorEqD2
import Derived.Test.YtlfndndmegjnlaaDoorEqD3
import Derived.Test.YtlfndndmegjnlaaDoorEqD4
import Derived.Lib.ItoaLen
import Derived.Lib.ItoaMem
namespace Go.Abs.TD
open Go Go.Abs Go.Proofs Go.RowKit

def ba (xs : List UInt8) : ByteArray := ⟨xs.toArray⟩
theorem ba_append (xs ys : List UInt8) : ba xs ++ ba ys = ba (xs ++ ys) := by
  apply ByteArray.ext; simp [ba, ByteArray.data_append]
theorem ba_size (xs : List UInt8) : (ba xs).size = xs.length := by simp [ba, ByteArray.size]
theorem ba_self (s : ByteArray) : s = ba s.data.toList := by
  apply ByteArray.ext; simp [ba]
theorem ba_data (l : List UInt8) : (ba l).data.toList = l := by simp [ba]
theorem ba_toList (l : List UInt8) : (ba l).toList = l := by rw [ByteArray.toList_eq, ba_data]
theorem ba_extract (l : List UInt8) (a b : Nat) : (ba l).extract a b = ba ((l.drop a).take (b - a)) := by
  apply ByteArray.ext
  apply Array.ext'
  rw [ByteArray.data_extract, Array.toList_extract, ba_data, ba_data, List.extract_eq_take_drop]
theorem ba_from (l : List UInt8) (a : Nat) : (ba l).extract a l.length = ba (l.drop a) := by
  rw [ba_extract, List.take_of_length_le (by rw [List.length_drop]; omega)]
theorem ba_to (l : List UInt8) (b : Nat) : (ba l).extract 0 b = ba (l.take b) := by
  rw [ba_extract, List.drop_zero, Nat.sub_zero]
theorem ba_inj {l m : List UInt8} (h : ba l = ba m) : l = m := by
  have := congrArg (fun x : ByteArray => x.data.toList) h
  simpa only [ba_data] using this
theorem ba_nil : (⟨#[]⟩ : ByteArray) = ba [] := rfl
/-! ### Cut -/
/-- What is ahead of the first c, behind it; is there one? -/
def cutB (c : UInt8) : List UInt8 → List UInt8 × List UInt8 × Bool
  | [] => ([], [], false)
  | x :: r => if x = c then ([], r, true) else (x :: (cutB c r).1, (cutB c r).2.1, (cutB c r).2.2)
theorem cut_one (c : UInt8) : ∀ s, Lib.cut s [c] = cutB c s
  | [] => rfl
  | x :: r => by
    have ih := cut_one c r
    have hg := Lib.index_ge r [c]
    unfold Lib.cut at ih ⊢
    rw [cutB, Lib.index]
    by_cases hx : x = c
    · subst hx
      rw [if_pos rfl, show ([x] : List UInt8).isPrefixOf (x :: r) = true by simp [List.isPrefixOf], if_pos rfl]
      simp
    · rw [if_neg hx, show ([c] : List UInt8).isPrefixOf (x :: r) = false by simp [List.isPrefixOf]; exact fun h => hx h.symm]
      rw [← ih]
      by_cases hi : 0 ≤ Lib.index r [c]
      · rw [if_pos hi]
        have h1 : (Lib.index r [c] == -1) = false := by rw [beq_eq_false_iff_ne]; omega
        rw [h1, if_neg (by decide : ¬ (false = true)), if_neg (by decide : ¬ (false = true)), if_pos (by omega)]
        obtain ⟨n, hn⟩ : ∃ n : Nat, Lib.index r [c] = (n : Int) := ⟨(Lib.index r [c]).toNat, by omega⟩
        rw [hn]
        have e : ((n : Int) + 1).toNat = n + 1 := by omega
        rw [e]
        simp
      · rw [if_neg hi]
        have h1 : (Lib.index r [c] == -1) = true := by rw [beq_iff_eq]; omega
        rw [h1, if_pos rfl, if_neg (by decide : ¬ (false = true)), if_neg (by decide)]
theorem cutB_len (c : UInt8) : ∀ s, (cutB c s).1.length ≤ s.length ∧ (cutB c s).2.1.length ≤ s.length
  | [] => by simp [cutB]
  | x :: r => by
    have ih := cutB_len c r
    unfold cutB
    split
    · simp
    · simp; omega
theorem cutB_more (c : UInt8) : ∀ s, (cutB c s).2.2 = true → s = (cutB c s).1 ++ c :: (cutB c s).2.1
  | [], h => by simp [cutB] at h
  | x :: r, h => by
    unfold cutB at h ⊢
    split at h
    · rename_i hx; subst hx; simp
    · rename_i hx
      rw [if_neg hx]
      simp only [List.cons_append]
      rw [← cutB_more c r h]
theorem cutB_none (c : UInt8) : ∀ s, (cutB c s).2.2 = false → (cutB c s).1 = s ∧ (cutB c s).2.1 = []
  | [], _ => by simp [cutB]
  | x :: r, h => by
    unfold cutB at h ⊢
    split at h
    · cases h
    · rename_i hx
      rw [if_neg hx]
      have := cutB_none c r h
      simp [this.1, this.2]
theorem cutB_free (c : UInt8) : ∀ s, c ∉ (cutB c s).1
  | [] => by simp [cutB]
  | x :: r => by
    unfold cutB
    split
    · simp
    · rename_i hx
      simp only [List.mem_cons, not_or]
      exact ⟨fun e => hx e.symm, cutB_free c r⟩
theorem cutB_at (c : UInt8) : ∀ a b, c ∉ a → cutB c (a ++ c :: b) = (a, b, true)
  | [], b, _ => by simp [cutB]
  | x :: a, b, h => by
    simp only [List.mem_cons, not_or] at h
    rw [List.cons_append, cutB, if_neg (fun e => h.1 e.symm), cutB_at c a b h.2]
theorem cutB_no (c : UInt8) : ∀ a, c ∉ a → cutB c a = (a, [], false)
  | [], _ => rfl
  | x :: a, h => by
    simp only [List.mem_cons, not_or] at h
    rw [cutB, if_neg (fun e => h.1 e.symm), cutB_no c a h.2]
/-! ### What the globals have -/
def powInts : List Int := [1, 10, 100, 1000, 10000, 100000, 1000000, 10000000, 100000000, 1000000000, 10000000000, 100000000000, 1000000000000, 10000000000000, 100000000000000, 1000000000000000, 10000000000000000, 100000000000000000, 1000000000000000000, 10000000000000000000]
def powRow : List AVal := powInts.map fun n => .int .u64 n
def wordsL : List (List UInt8) := [[115, 112, 108, 105, 116], [102, 108, 97, 116], [107, 105, 108, 108], [102, 111, 99, 117, 115], [109, 97, 114, 107], [114, 101, 119, 105, 110, 100], [102, 105, 110, 100], [112, 108, 97, 121], [112, 97, 117, 115, 101], [115, 116, 101, 112], [108, 105, 118, 101], [115, 121, 110, 99], [102, 105, 110, 105, 115, 104], [116, 114, 105, 109], [106, 111, 105, 110], [101, 120, 112, 111, 114, 116], [98, 105, 110, 100], [117, 110, 98, 105, 110, 100]]
def wordsRow : List AVal := wordsL.map fun w => .str (ba w)
structure GC (σ : Heap) : Prop where
  words : σ[0]? = some (.row wordsRow .ro)
  max : ∃ m, σ[1]? = some (.row [.int .i64 m] .ro)
  pow : σ[2]? = some (.row powRow .ro)
  syn : σ[3]? = some (.row [.errv false] .ro)
  rng : σ[4]? = some (.row [.errv false] .ro)
theorem get_pre' {σ σ' : Heap} (hp : σ <+: σ') {b : Nat} {x : Blk} (h : σ[b]? = some x) : σ'[b]? = some x := by
  rw [get_pre hp (List.getElem?_eq_some_iff.1 h).1]; exact h
theorem GC.pre {σ σ' : Heap} (h : GC σ) (hp : σ <+: σ') : GC σ' := ⟨get_pre' hp h.words, let ⟨m, hm⟩ := h.max; ⟨m, get_pre' hp hm⟩, get_pre' hp h.pow, get_pre' hp h.syn, get_pre' hp h.rng⟩
theorem GC.set {σ : Heap} (h : GC σ) {b : Nat} {cs : List AVal} (hb : σ[b]? = some (.row cs .rw)) (x : Blk) : GC (σ.set b x) := by
  obtain ⟨m, hm⟩ := h.max
  have ne : ∀ {g : Nat} {ds : List AVal}, σ[g]? = some (.row ds .ro) → (σ.set b x)[g]? = some (.row ds .ro) := fun {g ds} hg => by
    rw [List.getElem?_set_ne]
    · exact hg
    · intro e
      subst e
      rw [hb] at hg
      injection hg with hg
      injection hg with _ hg
      cases hg
  exact ⟨ne h.words, ⟨m, ne hm⟩, ne h.pow, ne h.syn, ne h.rng⟩
theorem globTrue {g : Nat} (h : g < 5) : T.glob g = true := by
  match g, h with
  | 0, _ | 1, _ | 2, _ | 3, _ | 4, _ => rfl
/-! ### strings.Cut -/
noncomputable def w_strings_Cut (s sep : ByteArray) (σ : Heap) : Option ((ByteArray × ByteArray × Bool) × Heap) :=
  wOf (fun c : UInt8 => GC σ ∧ s.size ≤ 1000000 ∧ sep = ba [c]) fun c => ((ba (cutB c s.data.toList).1, ba (cutB c s.data.toList).2.1, (cutB c s.data.toList).2.2), σ)
theorem w_strings_Cut_eq {l : List UInt8} {σ : Heap} (h : GC σ) (h2 : l.length ≤ 1000000) (c : UInt8) : w_strings_Cut (ba l) (ba [c]) σ = some ((ba (cutB c l).1, ba (cutB c l).2.1, (cutB c l).2.2), σ) := by
  have := wOf_eq (P := fun d : UInt8 => GC σ ∧ (ba l).size ≤ 1000000 ∧ ba [c] = ba [d]) (f := fun d => (((ba (cutB d (ba l).data.toList).1, ba (cutB d (ba l).data.toList).2.1, (cutB d (ba l).data.toList).2.2) : ByteArray × ByteArray × Bool), σ)) (x := c) ⟨h, by rw [ba_size]; exact h2, rfl⟩ fun d hd => by
    have := ba_inj hd.2.2
    injection this with e _
    subst e; rfl
  rw [ba_data] at this
  exact this
theorem drew_below (w : World) (k : Nat) : Below w.heap.size w (w.drewN k) := ⟨rfl, rfl, rfl, Nat.le_refl _, fun _ _ => rfl⟩
theorem ok_strings_Cut : Ok_strings_Cut w_strings_Cut := fun s sep σ v σ' h => by
  obtain ⟨c, ⟨hg, hs, rfl⟩, e⟩ := wOf_some h
  injection e with e1 e2
  subst e1; subst e2
  refine call_below fun ρ ws w hH hG hw => ?_
  simp only [VRels, VRel, tStr] at hw
  obtain ⟨u, us, rfl, rfl, u2, us2, rfl, rfl, rfl⟩ := hw
  obtain ⟨m, hm⟩ := hg.max
  obtain ⟨mv, h1, h2⟩ := glob_cell hH hG (globTrue (g := 1) (by decide)) hm (j := 0) rfl
  simp only [VRel] at h2
  subst h2
  refine (Any.strings_Cut Tryd.lays145 s (ba [c]) m w (by omega) h1).mono fun e w' ⟨he, n, hw⟩ => ?_
  subst hw
  rw [ba_data, cut_one] at he
  refine ⟨_, he, ?_, drew_below _ _⟩
  simp only [tTrip, tStr, tBool, VRel]
  exact ⟨[_, _, _], rfl, by simp only [VRels, VRel]; exact ⟨_, _, rfl, rfl, _, _, rfl, rfl, _, _, rfl, rfl, rfl⟩⟩
/-! ### strconv.Itoa, strconv.Atoi -/
theorem gPow' : Tryd.prog.globalNamed "internal/strconv.uint64pow10" = some 2 := by kernel_rfl
theorem pow10_ints : Lib.pow10Tab = powInts := by decide
theorem pow_tab {ρ : Mp} {σ : Heap} {w : World} (hH : HRel ρ σ w) (hG : GRel T ρ) (hp : GC σ) : Lib.TabIs Tryd.prog w "internal/strconv.uint64pow10" .u64 Lib.pow10Tab := by
  have h4 : σ[2]? = some (.row (powInts.map fun n => .int .u64 n) .ro) := hp.pow
  obtain ⟨ty, fr, hc⟩ := glob_ints hH hG (globTrue (g := 2) (by decide)) h4 rfl
  unfold Lib.TabIs World.var?
  rw [gPow', pow10_ints]
  simp only [Option.bind_some, hc]
def I64 (n : Int) : Prop := -9223372036854775808 ≤ n ∧ n ≤ 9223372036854775807
theorem grow_below (w : World) (k : Nat) (os : Array Obj) : Below w.heap.size w (Go.Sort.grow (w.drewN k) os) :=
  ⟨rfl, rfl, rfl, by show w.heap.size ≤ (w.heap ++ os).size; rw [Array.size_append]; omega, fun j hj => by show (w.heap ++ os)[j]? = w.heap[j]?; exact Array.getElem?_append_left hj⟩
noncomputable def w_strconv_Itoa (n : Int) (σ : Heap) : Option (ByteArray × Heap) := wIf (GC σ ∧ I64 n) (ba (Lib.itoa n), σ)
theorem w_strconv_Itoa_eq {n : Int} {σ : Heap} (h : GC σ) (h2 : I64 n) : w_strconv_Itoa n σ = some (ba (Lib.itoa n), σ) := wIf_eq ⟨h, h2⟩
theorem ok_strconv_Itoa : Ok_strconv_Itoa w_strconv_Itoa := fun n σ v σ' h => by
  obtain ⟨⟨hp, hs⟩, e⟩ := wIf_some h
  injection e with e1 e2
  subst e1; subst e2
  refine call_below fun ρ ws w hH hG hw => ?_
  simp only [VRels, VRel, tInt] at hw
  obtain ⟨u, us, rfl, rfl, rfl⟩ := hw
  refine (Any.strconv_Itoa Tryd.laysM171 n hs.1 hs.2 w (pow_tab hH hG hp)).mono fun e w' ⟨he, k, os, hw⟩ => ?_
  exact ⟨_, he, by simp [tStr, VRel, ba], by rw [hw]; exact grow_below _ k os⟩
/-- strconv.Atoi's answer. -/
def atoiV (s : ByteArray) : Int × Er := match Lib.atoiAll s.data.toList with
  | .ok v => (v, ⟨true⟩)
  | .range => (Lib.atoiSat s.data.toList, ⟨false⟩)
  | _ => (0, ⟨false⟩)
theorem err_cell {ρ : Mp} {σ : Heap} {w : World} (hH : HRel ρ σ w) (hG : GRel T ρ) (hp : GC σ) {g : Nat} (hg : g = 3 ∨ g = 4) : ∃ ev, w.cell? ⟨g, 0, none⟩ = some ev ∧ ∃ te pe, ev = .iface te pe := by
  have hs : σ[g]? = some (.row [.errv false] .ro) := by rcases hg with rfl | rfl <;> first | exact hp.syn | exact hp.rng
  obtain ⟨v, e, r⟩ := glob_cell hH hG (globTrue (g := g) (by omega)) hs (j := 0) rfl
  simp only [VRel] at r
  obtain ⟨t, y, r⟩ := r
  exact ⟨v, e, _, _, r⟩
noncomputable def w_strconv_Atoi (s : ByteArray) (σ : Heap) : Option ((Int × Er) × Heap) := wIf (GC σ ∧ s.size ≤ 281474976710656) (atoiV s, σ)
theorem w_strconv_Atoi_eq {s : ByteArray} {σ : Heap} (h : GC σ) (h2 : s.size ≤ 281474976710656) : w_strconv_Atoi s σ = some (atoiV s, σ) := wIf_eq ⟨h, h2⟩
theorem ok_strconv_Atoi : Ok_strconv_Atoi w_strconv_Atoi := fun s σ v σ' h => by
  obtain ⟨⟨hp, hs⟩, e⟩ := wIf_some h
  injection e with e1 e2
  subst e1; subst e2
  refine call_below fun ρ ws w hH hG hw => ?_
  simp only [VRels, VRel, tStr] at hw
  obtain ⟨u, us, rfl, rfl, rfl⟩ := hw
  unfold atoiV
  cases ha : Lib.atoiAll s.data.toList
  · rename_i v
    refine (Any.strconv_Atoi_ok Tryd.laysC172 s (by omega) v ha w).mono fun e w' ⟨he, hw⟩ => ⟨_, he, ?_, ?_⟩
    · simp only [tPair, tInt, tErr, VRel]
      exact ⟨[_, _], rfl, by simp only [VRels, VRel]; exact ⟨_, _, rfl, rfl, _, _, rfl, rfl, rfl⟩⟩
    · rcases hw with rfl | ⟨t, rfl⟩
      · exact Below.refl _ _
      · exact Lib.bytesWorld_below _ _ _
  · obtain ⟨ev, h1, te, pe, h2⟩ := err_cell hH hG hp (g := 3) (.inl rfl)
    refine (Any.strconv_Atoi_syntax Tryd.laysC172 s (by omega) ha ev w h1 (.inr ⟨te, pe, h2⟩)).mono fun e w' ⟨N, he, _, _, hb⟩ => ⟨_, he, ?_, hb⟩
    simp only [tPair, tInt, tErr, VRel]
    exact ⟨[_, _], rfl, by simp only [VRels, VRel]; exact ⟨_, _, rfl, rfl, _, _, rfl, ⟨_, _, rfl⟩, rfl⟩⟩
  · obtain ⟨ev, h1, te, pe, h2⟩ := err_cell hH hG hp (g := 4) (.inr rfl)
    refine (Any.strconv_Atoi_range Tryd.laysC172 s (by omega) ha ev w h1 (.inr ⟨te, pe, h2⟩)).mono fun e w' ⟨N, he, _, _, hb⟩ => ⟨_, he, ?_, hb⟩
    simp only [tPair, tInt, tErr, VRel]
    exact ⟨[_, _], rfl, by simp only [VRels, VRel]; exact ⟨_, _, rfl, rfl, _, _, rfl, ⟨_, _, rfl⟩, rfl⟩⟩
/-! ### number -/
/-- A whole number without a sign or a needless nought. -/
def numD (l : List UInt8) : Option Nat := if valD 0 l < 9223372036854775808 ∧ Lib.decDigits (valD 0 l) = l then some (valD 0 l) else none
def numV (l : List UInt8) : Int × Bool := match numD l with
  | some u => ((u : Int), true)
  | none => ((atoiV (ba l)).1, false)
theorem numD_some {l : List UInt8} {u : Nat} (h : numD l = some u) : l = Lib.decDigits u ∧ u < 9223372036854775808 := by
  unfold numD at h
  split at h
  · rename_i hc
    injection h with h
    subst h
    exact ⟨hc.2.symm, hc.1⟩
  · cases h
theorem numD_dec {u : Nat} (h : u < 9223372036854775808) : numD (Lib.decDigits u) = some u := by
  unfold numD
  rw [(dec_digits u).2.1, if_pos ⟨h, rfl⟩]
theorem atoi_dec (u : Nat) : Lib.atoiAll (Lib.decDigits u) = if u < 9223372036854775808 then .ok (u : Int) else .range := by
  obtain ⟨h1, h2, h3⟩ := dec_digits u
  rw [atoi_digits h3 h1, h2]
noncomputable def c_command_number : C_command_number := { strconv_Atoi := w_strconv_Atoi, strconv_Itoa := w_strconv_Itoa }
noncomputable def w_command_number (s : ByteArray) (σ : Heap) : Option ((Int × Bool) × Heap) := wIf (GC σ ∧ s.size ≤ 1000000) (numV s.data.toList, σ)
theorem w_command_number_eq {l : List UInt8} {σ : Heap} (h : GC σ) (h2 : l.length ≤ 1000000) : w_command_number (ba l) σ = some (numV l, σ) := by
  have : w_command_number (ba l) σ = some (numV (ba l).data.toList, σ) := wIf_eq ⟨h, by rw [ba_size]; exact h2⟩
  rw [ba_data] at this
  exact this
theorem atoi_bound {l : List UInt8} {v : Int} (h : Lib.atoiAll l = .ok v) : v ≤ 9223372036854775807 := (Lib.atoiAll_bounds h).2
theorem ok_command_number : Ok_command_number w_command_number := fun s σ v σ' h => by
  obtain ⟨⟨hp, hs⟩, e⟩ := wIf_some h
  injection e with e1 e2
  subst e1; subst e2
  obtain ⟨l, rfl⟩ : ∃ l, s = ba l := ⟨_, ba_self s⟩
  rw [ba_size] at hs
  refine call_ok ok (K_command_number c_command_number ok_strconv_Itoa ok_strconv_Atoi) (L := 0) (n := 2) ((command_number_eq c_command_number 0 (ba l) σ _).trans ?_)
  have p1 : c_command_number.strconv_Atoi = w_strconv_Atoi := rfl
  have p2 : c_command_number.strconv_Itoa = w_strconv_Itoa := rfl
  rw [p1, p2, w_strconv_Atoi_eq hp (by rw [ba_size]; omega), Option.bind_some, ba_data]
  unfold numV
  cases hn : numD l with
  | some u =>
    obtain ⟨rfl, hu⟩ := numD_some hn
    have ha : atoiV (ba (Lib.decDigits u)) = ((u : Int), ⟨true⟩) := by
      unfold atoiV
      rw [ba_data, atoi_dec, if_pos hu]
    rw [ha]
    simp only [cond_true, show decide ((u : Int) ≥ 0) = true by simp]
    rw [w_strconv_Itoa_eq hp ⟨by omega, by omega⟩, Option.bind_some, ba_toList, ba_toList, Lib.itoa_nonneg]
    simp [tPair, tInt, tBool]
  | none =>
    have key : ∀ v, Lib.atoiAll l = .ok v → v ≥ 0 → ¬ Lib.itoa v = l := fun v hv h0 he => by
      have h1 : l = Lib.decDigits v.toNat := by
        rw [← he]; unfold Lib.itoa; rw [if_neg (by omega)]
      rw [h1, atoi_dec] at hv
      split at hv
      · rename_i hlt
        rw [h1, numD_dec hlt] at hn
        cases hn
      · cases hv
    unfold atoiV
    rw [ba_data]
    cases ha : Lib.atoiAll l with
    | ok v =>
      simp only [cond_true]
      by_cases h0 : v ≥ 0
      · rw [decide_eq_true h0, cond_true, w_strconv_Itoa_eq hp ⟨by omega, atoi_bound ha⟩, Option.bind_some, ba_toList, ba_toList, show (Lib.itoa v == l) = false by rw [beq_eq_false_iff_ne]; exact key v ha h0]
        rfl
      · rw [decide_eq_false h0, cond_false]
        rfl
    | range => rfl
    | _ => rfl
/-! ### pair -/
def pairV (l : List UInt8) : Int × Int × Bool := ((numV (cutB 47 l).1).1, (numV (cutB 47 l).2.1).1, (cutB 47 l).2.2 && ((numV (cutB 47 l).1).2 && (numV (cutB 47 l).2.1).2))
noncomputable def c_command_pair : C_command_pair := { strings_Cut := w_strings_Cut, command_number := w_command_number }
noncomputable def w_command_pair (s : ByteArray) (σ : Heap) : Option ((Int × Int × Bool) × Heap) := wIf (GC σ ∧ s.size ≤ 1000000) (pairV s.data.toList, σ)
theorem w_command_pair_eq {l : List UInt8} {σ : Heap} (h : GC σ) (h2 : l.length ≤ 1000000) : w_command_pair (ba l) σ = some (pairV l, σ) := by
  have : w_command_pair (ba l) σ = some (pairV (ba l).data.toList, σ) := wIf_eq ⟨h, by rw [ba_size]; exact h2⟩
  rw [ba_data] at this
  exact this
theorem ok_command_pair : Ok_command_pair w_command_pair := fun s σ v σ' h => by
  obtain ⟨⟨hp, hs⟩, e⟩ := wIf_some h
  injection e with e1 e2
  subst e1; subst e2
  obtain ⟨l, rfl⟩ : ∃ l, s = ba l := ⟨_, ba_self s⟩
  rw [ba_size] at hs
  refine call_ok ok (K_command_pair c_command_pair ok_strings_Cut ok_command_number) (L := 0) (n := 2) ((command_pair_eq c_command_pair 0 (ba l) σ _).trans ?_)
  have p1 : c_command_pair.strings_Cut = w_strings_Cut := rfl
  have p2 : c_command_pair.command_number = w_command_number := rfl
  have hl := cutB_len 47 l
  rw [p1, p2, show (⟨#[47]⟩ : ByteArray) = ba [47] from rfl, w_strings_Cut_eq hp hs, Option.bind_some]
  simp only
  rw [w_command_number_eq hp (by omega), Option.bind_some]
  simp only
  rw [w_command_number_eq hp (by omega), Option.bind_some, ba_data]
  unfold pairV
  cases (cutB 47 l).2.2 <;> cases (numV (cutB 47 l).1).2 <;> rfl
/-! ### key -/
def keyV : List UInt8 → Bool
  | [c] => decide (32 < c.toNat) && decide (c.toNat < 127)
  | _ => false
def w_command_key (s : ByteArray) (σ : Heap) : Option (Bool × Heap) := some (keyV s.data.toList, σ)
theorem ok_command_key : Ok_command_key w_command_key := fun s σ v σ' h => by
  injection h with e
  injection e with e1 e2
  subst e1; subst e2
  obtain ⟨l, rfl⟩ : ∃ l, s = ba l := ⟨_, ba_self s⟩
  refine call_ok ok known0_ok (L := 0) (n := 2) ((command_key_eq 0 (ba l) σ _).trans ?_)
  rw [ba_size, ba_data]
  match l with
  | [] => rfl
  | [c] =>
    simp only [List.length_singleton, List.getD_cons_zero]
    rw [show ((((1 : Nat) : Int)) == 1) = true from rfl, cond_true, show decide ((0 : Int) < ((1 : Nat) : Int)) = true from rfl, cond_true]
    simp only [keyV]
    by_cases h1 : 32 < c.toNat
    · rw [decide_eq_true (show ((c.toNat : Nat) : Int) > 32 by omega), decide_eq_true h1, cond_true, Bool.true_and, cond_true]
      by_cases h2 : c.toNat < 127
      · rw [decide_eq_true (show ((c.toNat : Nat) : Int) < 127 by omega), decide_eq_true h2]; rfl
      · rw [decide_eq_false (show ¬ ((c.toNat : Nat) : Int) < 127 by omega), decide_eq_false h2]; rfl
    · rw [decide_eq_false (show ¬ ((c.toNat : Nat) : Int) > 32 by omega), decide_eq_false h1]; rfl
  | a :: b :: r =>
    have : ((((a :: b :: r).length : Nat) : Int) == 1) = false := by rw [beq_eq_false_iff_ne]; simp only [List.length_cons]; omega
    rw [this]; rfl
end Go.Abs.TD
namespace Go.Abs.TD
open Go Go.Abs Go.Proofs Go.RowKit

abbrev Cmd := command_Command
def zc (k : Int) : Cmd := ⟨k, 0, 0, ba []⟩
def errI (b : Bool) : Int := bif b then 0 else 1
def boundV (pv : List UInt8 → Cmd × Int) (k : Int) (rest : List UInt8) : Int × Cmd :=
  if keyV (cutB 32 rest).1 = false then (1, zc k)
  else if (cutB 32 rest).2.2 = false then (1, zc k)
  else if 40 < (cutB 32 rest).2.1.length then (2, zc k)
  else if (pv (cutB 32 rest).2.1).2 ≠ 0 then (1, zc k)
  else if 16 ≤ (pv (cutB 32 rest).2.1).1.Kind then (1, zc k)
  else (0, ⟨k, (((cutB 32 rest).1.getD 0 0).toNat : Int), 0, ba (cutB 32 rest).2.1⟩)
def fillV (pv : List UInt8 → Cmd × Int) (k : Nat) (rest : List UInt8) (more : Bool) : Int × Cmd :=
  if k = 3 ∨ k = 5 ∨ k = 14 then (errI (numV rest).2, ⟨k, (numV rest).1, 0, ba []⟩)
  else if k = 7 ∨ k = 13 then (errI (pairV rest).2.2, ⟨k, (pairV rest).1, (pairV rest).2.1, ba []⟩)
  else if k = 4 ∨ k = 6 then (if 40 < rest.length then (2, zc k) else (errI more, ⟨k, 0, 0, ba rest⟩))
  else if k = 16 then boundV pv k rest
  else if k = 17 then (if keyV rest then (0, ⟨k, ((rest.getD 0 0).toNat : Int), 0, ba []⟩) else (1, zc k))
  else (errI (!more), zc k)
/-- The place of a word. -/
def findW (f : List UInt8) : List (List UInt8) → Nat → Option Nat
  | [], _ => none
  | w :: r, k => if w = f then some k else findW f r (k + 1)
def ansV (pv : List UInt8 → Cmd × Int) (rest : List UInt8) (more : Bool) : Option Nat → Cmd × Int
  | none => (zc 0, 1)
  | some k => if (fillV pv k rest more).1 ≠ 0 then (zc 0, (fillV pv k rest more).1) else ((fillV pv k rest more).2, 0)
def parseV : Nat → List UInt8 → Cmd × Int
  | 0, _ => (zc 0, 1)
  | n + 1, s => ansV (parseV n) (cutB 32 s).2.1 (cutB 32 s).2.2 (findW (cutB 32 s).1 wordsL 0)
/-! ### The command where it lies -/
theorem set_same {σ : Heap} {b : Nat} {x : Blk} (h : σ[b]? = some x) : σ.set b x = σ := by
  apply List.ext_getElem?
  intro j
  by_cases hj : b = j
  · subst hj
    rw [List.getElem?_set_self (List.getElem?_eq_some_iff.1 h).1, h]
  · rw [List.getElem?_set_ne hj]
theorem store_at {σ : Heap} {b : Nat} {cs : List AVal} (h : σ[b]? = some (.row cs .rw)) {o : Nat} {vs : List AVal} (ho : o + vs.length ≤ cs.length) : σ.store b o vs = some (σ.set b (.row (overwrite cs o vs) .rw)) := by
  unfold Heap.store
  rw [h]
  simp only [ho, if_true]
theorem store1 {σ : Heap} {b : Nat} {c : Cmd} (h : σ[b]? = some (.row c.cells .rw)) (n : Int) : σ.store b (0 + 1) [.int .i64 n] = some (σ.set b (.row ({ c with N := n } : Cmd).cells .rw)) := store_at h (by simp [command_Command.cells])
theorem store2 {σ : Heap} {b : Nat} {c : Cmd} (h : σ[b]? = some (.row c.cells .rw)) (n : Int) : σ.store b (0 + 2) [.int .i64 n] = some (σ.set b (.row ({ c with M := n } : Cmd).cells .rw)) := store_at h (by simp [command_Command.cells])
theorem store3 {σ : Heap} {b : Nat} {c : Cmd} (h : σ[b]? = some (.row c.cells .rw)) (t : ByteArray) : σ.store b (0 + 3) [.str t] = some (σ.set b (.row ({ c with Text := t } : Cmd).cells .rw)) := store_at h (by simp [command_Command.cells])
theorem set_at {σ : Heap} {b : Nat} {x y : Blk} (h : σ[b]? = some x) : (σ.set b y)[b]? = some y := List.getElem?_set_self (List.getElem?_eq_some_iff.1 h).1
/-- A new command, to be filled. -/
structure FillPre (n : Nat) (p : Pt) (rest : ByteArray) (σ : Heap) (b k : Nat) : Prop where
  at_ : p = some (b, 0)
  row : σ[b]? = some (.row (zc k).cells .rw)
  gc : GC σ
  small : rest.size ≤ n
  s1 : rest.size ≤ 1000000
  k18 : k < 18
theorem FillPre.uniq {n : Nat} {p : Pt} {rest : ByteArray} {σ : Heap} {b k b' k' : Nat} (h : FillPre n p rest σ b k) (h' : FillPre n p rest σ b' k') : b' = b ∧ k' = k := by
  have e := h.at_
  rw [h'.at_] at e
  injection e with e
  injection e with e _
  refine ⟨e, ?_⟩
  have r := h.row
  rw [← e, h'.row] at r
  injection r with r
  injection r with r
  have := congrArg List.head? r
  simp [zc, command_Command.cells] at this
  omega
noncomputable def w_command_Parse (n : Nat) (s : ByteArray) (σ : Heap) : Option ((Cmd × Int) × Heap) := wIf (GC σ ∧ s.size < n ∧ s.size ≤ 1000000) (parseV n s.data.toList, σ)
theorem w_command_Parse_eq {n : Nat} {l : List UInt8} {σ : Heap} (h : GC σ) (h2 : l.length < n) (h3 : l.length ≤ 1000000) : w_command_Parse n (ba l) σ = some (parseV n l, σ) := by
  have : w_command_Parse n (ba l) σ = some (parseV n (ba l).data.toList, σ) := wIf_eq ⟨h, by rw [ba_size]; exact h2, by rw [ba_size]; exact h3⟩
  rw [ba_data] at this
  exact this
noncomputable def w_command_Command_bound (n : Nat) (p : Pt) (rest : ByteArray) (σ : Heap) : Option (Int × Heap) :=
  wOf (fun t : Nat × Nat => FillPre n p rest σ t.1 t.2) fun t => ((boundV (parseV n) t.2 rest.data.toList).1, σ.set t.1 (.row (boundV (parseV n) t.2 rest.data.toList).2.cells .rw))
theorem w_command_Command_bound_eq {n b k : Nat} {l : List UInt8} {σ : Heap} (h : FillPre n (some (b, 0)) (ba l) σ b k) : w_command_Command_bound n (some (b, 0)) (ba l) σ = some ((boundV (parseV n) k l).1, σ.set b (.row (boundV (parseV n) k l).2.cells .rw)) := by
  have := wOf_eq (P := fun t : Nat × Nat => FillPre n (some (b, 0)) (ba l) σ t.1 t.2) (f := fun t => (((boundV (parseV n) t.2 (ba l).data.toList).1 : Int), σ.set t.1 (.row (boundV (parseV n) t.2 (ba l).data.toList).2.cells .rw))) (x := (b, k)) h fun y hy => by
    obtain ⟨e1, e2⟩ := h.uniq hy
    simp only [e1, e2]
  rw [ba_data] at this
  exact this
noncomputable def c_command_Command_bound (n : Nat) : C_command_Command_bound := { strings_Cut := w_strings_Cut, command_key := w_command_key, command_Parse := w_command_Parse n }
theorem u8_lt (c : UInt8) : c.toNat < 256 := c.toNat_lt
theorem wrap_u8 (c : UInt8) : IntKind.i64.wrap ((c.toNat : Nat) : Int) = ((c.toNat : Nat) : Int) := by
  have := u8_lt c
  rw [IntKind.wrap_i64]; omega
theorem key_one {l : List UInt8} (h : keyV l = true) : ∃ c, l = [c] := by
  unfold keyV at h
  split at h
  · exact ⟨_, rfl⟩
  · cases h
theorem w_key_eq (l : List UInt8) (σ : Heap) : w_command_key (ba l) σ = some (keyV l, σ) := by unfold w_command_key; rw [ba_data]
theorem ok_command_Command_bound (n : Nat) (hP : Ok_command_Parse (w_command_Parse n)) : Ok_command_Command_bound (w_command_Command_bound n) := fun p rest σ v σ' h => by
  obtain ⟨⟨b, k⟩, hp, e⟩ := wOf_some h
  injection e with e1 e2
  subst e1; subst e2
  obtain ⟨l, rfl⟩ : ∃ l, rest = ba l := ⟨_, ba_self rest⟩
  obtain rfl := hp.at_
  have hs1 := hp.small
  have hs2 := hp.s1
  rw [ba_size] at hs1 hs2
  refine call_ok ok (K_command_Command_bound (c_command_Command_bound n) hP ok_strings_Cut ok_command_key) (L := 0) (n := 2) ((command_Command_bound_eq (c_command_Command_bound n) 0 (some (b, 0)) (ba l) σ _).trans ?_)
  have p1 : (c_command_Command_bound n).strings_Cut = w_strings_Cut := rfl
  have p2 : (c_command_Command_bound n).command_key = w_command_key := rfl
  have p3 : (c_command_Command_bound n).command_Parse = w_command_Parse n := rfl
  have hl := cutB_len 32 l
  have same : ∀ r : Int × Cmd, r.2 = zc k → (some (AVal.int .i64 r.1, σ) : Option (AVal × Heap)) = some ((tInt .i64).av r.1, σ.set b (.row r.2.cells .rw)) := fun r hr => by
    rw [hr, set_same hp.row]; rfl
  rw [p1, p2, p3, show (⟨#[32]⟩ : ByteArray) = ba [32] from rfl, w_strings_Cut_eq hp.gc hs2, Option.bind_some, ba_data l]
  simp only
  rw [w_key_eq, Option.bind_some]
  simp only
  cases hk : keyV (cutB 32 l).1 with
  | false =>
    have e : boundV (parseV n) k l = (1, zc k) := by unfold boundV; rw [if_pos hk]
    rw [e]
    exact same (1, zc k) rfl
  | true =>
    cases hm : (cutB 32 l).2.2 with
    | false =>
      have e : boundV (parseV n) k l = (1, zc k) := by unfold boundV; rw [if_neg (by rw [hk]; decide), if_pos hm]
      rw [e]
      exact same (1, zc k) rfl
    | true =>
      rw [Bool.not_true, cond_false, cond_false, ba_size]
      have hlt : (cutB 32 l).2.1.length < l.length := by
        have := congrArg List.length (cutB_more 32 l hm)
        simp only [List.length_append, List.length_cons] at this
        omega
      by_cases h40 : 40 < (cutB 32 l).2.1.length
      · have e : boundV (parseV n) k l = (2, zc k) := by unfold boundV; rw [if_neg (by rw [hk]; decide), if_neg (by rw [hm]; decide), if_pos h40]
        rw [e, decide_eq_true (show (((cutB 32 l).2.1.length : Nat) : Int) > 40 by omega), cond_true]
        exact same (2, zc k) rfl
      · rw [decide_eq_false (show ¬ (((cutB 32 l).2.1.length : Nat) : Int) > 40 by omega), cond_false, w_command_Parse_eq hp.gc (by omega) (by omega), Option.bind_some]
        simp only
        by_cases hx : (parseV n (cutB 32 l).2.1).2 ≠ 0
        · have e : boundV (parseV n) k l = (1, zc k) := by unfold boundV; rw [if_neg (by rw [hk]; decide), if_neg (by rw [hm]; decide), if_neg h40, if_pos hx]
          rw [e, show ((parseV n (cutB 32 l).2.1).2 != 0) = true by rw [bne_iff_ne]; exact hx, cond_true]
          exact same (1, zc k) rfl
        · rw [show ((parseV n (cutB 32 l).2.1).2 != 0) = false by simpa using hx, cond_false]
          by_cases h16 : 16 ≤ (parseV n (cutB 32 l).2.1).1.Kind
          · have e : boundV (parseV n) k l = (1, zc k) := by unfold boundV; rw [if_neg (by rw [hk]; decide), if_neg (by rw [hm]; decide), if_neg h40, if_neg hx, if_pos h16]
            rw [e, decide_eq_true (show (parseV n (cutB 32 l).2.1).1.Kind ≥ 16 from h16), cond_true]
            exact same (1, zc k) rfl
          · have e : boundV (parseV n) k l = (0, ⟨k, (((cutB 32 l).1.getD 0 0).toNat : Int), 0, ba (cutB 32 l).2.1⟩) := by unfold boundV; rw [if_neg (by rw [hk]; decide), if_neg (by rw [hm]; decide), if_neg h40, if_neg hx, if_neg h16]
            rw [e, decide_eq_false (show ¬ (parseV n (cutB 32 l).2.1).1.Kind ≥ 16 from h16), cond_false]
            obtain ⟨c, hc⟩ := key_one hk
            rw [hc, ba_size, ba_data]
            rw [show decide ((0 : Int) < (([c].length : Nat) : Int)) = true from rfl, cond_true, Option.bind_some, List.getD_cons_zero, wrap_u8, store1 hp.row, Option.bind_some, Option.bind_some, store3 (set_at hp.row), Option.bind_some, List.set_set]
            rfl
/-! ### fill -/
noncomputable def c_command_Command_fill (n : Nat) : C_command_Command_fill := { command_number := w_command_number, command_pair := w_command_pair, command_Command_bound := w_command_Command_bound n, command_key := w_command_key }
noncomputable def w_command_Command_fill (n : Nat) (p : Pt) (rest : ByteArray) (more : Bool) (σ : Heap) : Option (Int × Heap) :=
  wOf (fun t : Nat × Nat => FillPre n p rest σ t.1 t.2) fun t => ((fillV (parseV n) t.2 rest.data.toList more).1, σ.set t.1 (.row (fillV (parseV n) t.2 rest.data.toList more).2.cells .rw))
theorem w_command_Command_fill_eq {n b k : Nat} {l : List UInt8} {more : Bool} {σ : Heap} (h : FillPre n (some (b, 0)) (ba l) σ b k) : w_command_Command_fill n (some (b, 0)) (ba l) more σ = some ((fillV (parseV n) k l more).1, σ.set b (.row (fillV (parseV n) k l more).2.cells .rw)) := by
  have := wOf_eq (P := fun t : Nat × Nat => FillPre n (some (b, 0)) (ba l) σ t.1 t.2) (f := fun t => (((fillV (parseV n) t.2 (ba l).data.toList more).1 : Int), σ.set t.1 (.row (fillV (parseV n) t.2 (ba l).data.toList more).2.cells .rw))) (x := (b, k)) h fun y hy => by
    obtain ⟨e1, e2⟩ := h.uniq hy
    simp only [e1, e2]
  rw [ba_data] at this
  exact this
theorem J22 {n : Nat} {okb : Bool} {σ : Heap} : command_Command_fill_J22 (R := AVal × Heap) (c_command_Command_fill n) 0 okb σ (fun v σ => some (v, σ)) = some ((tInt .i64).av (errI okb), σ) := by
  rw [command_Command_fill_J22_eq]
  cases okb <;> rfl
theorem ok_command_Command_fill (n : Nat) (hP : Ok_command_Parse (w_command_Parse n)) : Ok_command_Command_fill (w_command_Command_fill n) := fun p rest more σ v σ' h => by
  obtain ⟨⟨b, k⟩, hp, e⟩ := wOf_some h
  injection e with e1 e2
  subst e1; subst e2
  obtain ⟨l, rfl⟩ : ∃ l, rest = ba l := ⟨_, ba_self rest⟩
  obtain rfl := hp.at_
  have hs1 := hp.small
  have hs2 := hp.s1
  rw [ba_size] at hs1 hs2
  refine call_ok ok (K_command_Command_fill (c_command_Command_fill n) ok_command_number ok_command_pair (ok_command_Command_bound n hP) ok_command_key) (L := 0) (n := 2) ((command_Command_fill_eq (c_command_Command_fill n) 0 (some (b, 0)) (ba l) more σ _).trans ?_)
  have p1 : (c_command_Command_fill n).command_number = w_command_number := rfl
  have p2 : (c_command_Command_fill n).command_pair = w_command_pair := rfl
  have p3 : (c_command_Command_fill n).command_Command_bound = w_command_Command_bound n := rfl
  have p4 : (c_command_Command_fill n).command_key = w_command_key := rfl
  have hcell : int? (σ.cell? b 0) .i64 = some (k : Int) := by
    unfold Heap.cell?
    rw [row?_of hp.row (by simp)]
    rfl
  rw [Option.bind_some, hcell, Option.bind_some, ba_data l]
  have hnum : ∀ (j : Nat), j = k → fillV (parseV n) k l more = (errI (numV l).2, ⟨k, (numV l).1, 0, ba []⟩) → ((c_command_Command_fill n).command_number (ba l) σ).bind (fun q6 => (some (b, 0) : Pt).bind fun q7 => (Heap.store q6.2 q7.1 (q7.2 + 1) [.int .i64 q6.1.1]).bind fun σ8 => command_Command_fill_J22 (R := AVal × Heap) (c_command_Command_fill n) 0 q6.1.2 σ8 (fun v σ => some (v, σ))) = some ((tInt .i64).av (fillV (parseV n) k l more).1, σ.set b (.row (fillV (parseV n) k l more).2.cells .rw)) := fun j hj hf => by
    rw [hf, p1, w_command_number_eq hp.gc hs2, Option.bind_some, Option.bind_some, store1 hp.row, Option.bind_some, J22]
    rfl
  have hpair : fillV (parseV n) k l more = (errI (pairV l).2.2, ⟨k, (pairV l).1, (pairV l).2.1, ba []⟩) → ((c_command_Command_fill n).command_pair (ba l) σ).bind (fun q9 => (some (b, 0) : Pt).bind fun q10 => (Heap.store q9.2 q10.1 (q10.2 + 1) [.int .i64 q9.1.1]).bind fun σ11 => (some (b, 0) : Pt).bind fun q12 => (Heap.store σ11 q12.1 (q12.2 + 2) [.int .i64 q9.1.2.1]).bind fun σ13 => command_Command_fill_J22 (R := AVal × Heap) (c_command_Command_fill n) 0 q9.1.2.2 σ13 (fun v σ => some (v, σ))) = some ((tInt .i64).av (fillV (parseV n) k l more).1, σ.set b (.row (fillV (parseV n) k l more).2.cells .rw)) := fun hf => by
    rw [hf, p2, w_command_pair_eq hp.gc hs2, Option.bind_some, Option.bind_some, store1 hp.row, Option.bind_some, Option.bind_some, store2 (set_at hp.row), Option.bind_some, J22, List.set_set]
    rfl
  have htext : fillV (parseV n) k l more = (if 40 < l.length then (2, zc k) else (errI more, ⟨k, 0, 0, ba l⟩)) → (bif (decide (((ba l).size : Int) > 40)) then some (AVal.int .i64 2, σ) else (some (b, 0) : Pt).bind fun q14 => (Heap.store σ q14.1 (q14.2 + 3) [.str (ba l)]).bind fun σ15 => command_Command_fill_J22 (R := AVal × Heap) (c_command_Command_fill n) 0 more σ15 (fun v σ => some (v, σ))) = some ((tInt .i64).av (fillV (parseV n) k l more).1, σ.set b (.row (fillV (parseV n) k l more).2.cells .rw)) := fun hf => by
    rw [hf, ba_size]
    by_cases h40 : 40 < l.length
    · rw [if_pos h40, decide_eq_true (show ((l.length : Nat) : Int) > 40 by omega), cond_true, set_same hp.row]
      rfl
    · rw [if_neg h40, decide_eq_false (show ¬ ((l.length : Nat) : Int) > 40 by omega), cond_false, Option.bind_some, store3 hp.row, Option.bind_some, J22]
      rfl
  have hbound : fillV (parseV n) k l more = boundV (parseV n) k l → ((c_command_Command_fill n).command_Command_bound (some (b, 0)) (ba l) σ).bind (fun q16 => some (AVal.int .i64 q16.1, q16.2)) = some ((tInt .i64).av (fillV (parseV n) k l more).1, σ.set b (.row (fillV (parseV n) k l more).2.cells .rw)) := fun hf => by
    rw [hf, p3, w_command_Command_bound_eq hp, Option.bind_some]
    rfl
  have hunbind : fillV (parseV n) k l more = (if keyV l then (0, ⟨k, ((l.getD 0 0).toNat : Int), 0, ba []⟩) else (1, zc k)) → ((c_command_Command_fill n).command_key (ba l) σ).bind (fun q17 => bif q17.1 then (bif (decide (0 < ((ba l).size : Int))) then ((some (b, 0) : Pt).bind fun q18 => (Heap.store q17.2 q18.1 (q18.2 + 1) [.int .i64 (IntKind.i64.wrap ((l.getD 0 0).toNat : Int))]).bind fun σ19 => command_Command_fill_J22 (R := AVal × Heap) (c_command_Command_fill n) 0 q17.1 σ19 (fun v σ => some (v, σ))) else none) else command_Command_fill_J22 (R := AVal × Heap) (c_command_Command_fill n) 0 q17.1 q17.2 (fun v σ => some (v, σ))) = some ((tInt .i64).av (fillV (parseV n) k l more).1, σ.set b (.row (fillV (parseV n) k l more).2.cells .rw)) := fun hf => by
    rw [hf, p4, w_key_eq, Option.bind_some, ba_size]
    cases hk : keyV l with
    | true =>
      obtain ⟨c, rfl⟩ := key_one hk
      rw [show decide ((0 : Int) < (([c].length : Nat) : Int)) = true from rfl]
      simp only [cond_true, Option.bind_some, List.getD_cons_zero, wrap_u8, if_true]
      rw [store1 hp.row, Option.bind_some, J22]
      rfl
    | false =>
      simp only [cond_false]
      rw [J22, if_neg (by decide), set_same hp.row]
      rfl
  have hplain : fillV (parseV n) k l more = (errI (!more), zc k) → command_Command_fill_J22 (R := AVal × Heap) (c_command_Command_fill n) 0 (!more) σ (fun v σ => some (v, σ)) = some ((tInt .i64).av (fillV (parseV n) k l more).1, σ.set b (.row (fillV (parseV n) k l more).2.cells .rw)) := fun hf => by
    rw [hf, J22, set_same hp.row]
  have h18 := hp.k18
  match k, h18, hnum, hpair, htext, hbound, hunbind, hplain with
  | 0, _, _, _, _, _, _, h => exact h rfl
  | 1, _, _, _, _, _, _, h => exact h rfl
  | 2, _, _, _, _, _, _, h => exact h rfl
  | 3, _, h, _, _, _, _, _ => exact h 3 rfl rfl
  | 4, _, _, _, h, _, _, _ => exact h rfl
  | 5, _, h, _, _, _, _, _ => exact h 5 rfl rfl
  | 6, _, _, _, h, _, _, _ => exact h rfl
  | 7, _, _, h, _, _, _, _ => exact h rfl
  | 8, _, _, _, _, _, _, h => exact h rfl
  | 9, _, _, _, _, _, _, h => exact h rfl
  | 10, _, _, _, _, _, _, h => exact h rfl
  | 11, _, _, _, _, _, _, h => exact h rfl
  | 12, _, _, _, _, _, _, h => exact h rfl
  | 13, _, _, h, _, _, _, _ => exact h rfl
  | 14, _, h, _, _, _, _, _ => exact h 14 rfl rfl
  | 15, _, _, _, _, _, _, h => exact h rfl
  | 16, _, _, _, _, h, _, _ => exact h rfl
  | 17, _, _, _, _, _, h, _ => exact h rfl
  | k + 18, hk, _, _, _, _, _, _ => omega
end Go.Abs.TD
namespace Go.Abs.TD
open Go Go.Abs Go.Proofs Go.RowKit

def wd (i : Nat) : ByteArray := ba (wordsL.getD i [])
theorem words_get {i : Nat} (h : i < 18) : wordsRow[i]? = some (.str (wd i)) := by
  match i, h with
  | 0, _ => rfl
  | 1, _ => rfl
  | 2, _ => rfl
  | 3, _ => rfl
  | 4, _ => rfl
  | 5, _ => rfl
  | 6, _ => rfl
  | 7, _ => rfl
  | 8, _ => rfl
  | 9, _ => rfl
  | 10, _ => rfl
  | 11, _ => rfl
  | 12, _ => rfl
  | 13, _ => rfl
  | 14, _ => rfl
  | 15, _ => rfl
  | 16, _ => rfl
  | 17, _ => rfl
  | i + 18, h => omega
theorem word_cell {σ : Heap} (h : GC σ) (i : Nat) (hi : i < 18) : str? (σ.cell? 0 i) = some (wd i) := by
  unfold Heap.cell?
  rw [row?_of h.words (by simp), Option.bind_some, words_get hi]
  rfl
theorem wd_at {k : Nat} (h : k < 18) : str? (([.str (wd 0), .str (wd 1), .str (wd 2), .str (wd 3), .str (wd 4), .str (wd 5), .str (wd 6), .str (wd 7), .str (wd 8), .str (wd 9), .str (wd 10), .str (wd 11), .str (wd 12), .str (wd 13), .str (wd 14), .str (wd 15), .str (wd 16), .str (wd 17)] : List AVal)[((k : Nat) : Int).toNat * 1]?) = some (wd k) := by
  rw [Int.toNat_natCast, Nat.mul_one]
  have := words_get h
  rw [show wordsRow = ([.str (wd 0), .str (wd 1), .str (wd 2), .str (wd 3), .str (wd 4), .str (wd 5), .str (wd 6), .str (wd 7), .str (wd 8), .str (wd 9), .str (wd 10), .str (wd 11), .str (wd 12), .str (wd 13), .str (wd 14), .str (wd 15), .str (wd 16), .str (wd 17)] : List AVal) from rfl] at this
  rw [this]
  rfl
theorem words_drop {k : Nat} (h : k < 18) : wordsL.drop k = wordsL.getD k [] :: wordsL.drop (k + 1) := by
  rw [List.drop_eq_getElem_cons (show k < wordsL.length from h), List.getD_eq_getElem?_getD, List.getElem?_eq_getElem (show k < wordsL.length from h)]
  rfl
noncomputable def c_command_Parse (n : Nat) : C_command_Parse := { strings_Cut := w_strings_Cut, command_Command_fill := w_command_Command_fill n }
theorem set_push (σ : Heap) (x y : Blk) : (σ ++ [x]).set σ.length y = σ ++ [y] := by simp
theorem cells_get (σ : Heap) (c : Cmd) : int? ((σ ++ [Blk.row c.cells .rw]).cell? σ.length 0) .i64 = some c.Kind ∧ int? ((σ ++ [Blk.row c.cells .rw]).cell? σ.length 1) .i64 = some c.N ∧
    int? ((σ ++ [Blk.row c.cells .rw]).cell? σ.length 2) .i64 = some c.M ∧ str? ((σ ++ [Blk.row c.cells .rw]).cell? σ.length 3) = some c.Text := by
  have h : (σ ++ [Blk.row c.cells .rw]).row? σ.length = some c.cells := row?_of (get_push ..) (by simp)
  unfold Heap.cell?
  rw [h]
  exact ⟨rfl, rfl, rfl, rfl⟩
theorem Parse_loop {L n : Nat} {f r : List UInt8} {more : Bool} {σ : Heap} (hG : GC σ) (hr : r.length ≤ n) (hr1 : r.length ≤ 1000000) : ∀ (j k m : Nat), k + j = 18 → j < m →
    ∃ σ1, command_Parse_L3 (R := AVal × Heap) (c_command_Parse n) L m (ba f) (ba r) more (wd 0) (wd 1) (wd 2) (wd 3) (wd 4) (wd 5) (wd 6) (wd 7) (wd 8) (wd 9) (wd 10) (wd 11) (wd 12) (wd 13) (wd 14) (wd 15) (wd 16) (wd 17) (k : Int) σ (fun v σ => some (v, σ)) = some ((tPair t_command_Command (tInt .i64)).av (ansV (parseV n) r more (findW f (wordsL.drop k) k)), σ1) ∧ ∀ b, b < σ.length → σ1[b]? = σ[b]?
  | j, k, 0, _, h => by omega
  | 0, k, m + 1, hk, hm => by
    obtain rfl : k = 18 := by omega
    refine ⟨σ, ?_, fun _ _ => rfl⟩
    rw [command_Parse_L3_eq]
    rfl
  | j + 1, k, m + 1, hk, hm => by
    have h18 : k < 18 := by omega
    rw [command_Parse_L3_eq, wd_at h18, show decide ((k : Int) < 18) = true by simp; omega, cond_true, show decide ((0 : Int) ≤ (k : Int)) = true by simp, Bool.true_and, cond_true, Option.bind_some, words_drop h18, findW]
    unfold wd
    rw [ba_toList, ba_toList]
    by_cases he : wordsL.getD k [] = f
    · rw [show (wordsL.getD k [] == f) = true by rw [beq_iff_eq]; exact he, Bool.not_true, cond_false, if_pos he]
      have hp : FillPre n (some (σ.length, 0)) (ba r) (σ ++ [.row (zc k).cells .rw]) σ.length k := ⟨rfl, get_push .., hG.pre (pre_push ..), by rw [ba_size]; exact hr, by rw [ba_size]; exact hr1, h18⟩
      have hst : Heap.store (σ ++ [.row [.int .i64 0, .int .i64 0, .int .i64 0, .str (⟨#[]⟩ : ByteArray)] .rw]) σ.length 0 [.int .i64 k, .int .i64 0, .int .i64 0, .str (⟨#[]⟩ : ByteArray)] = some (σ ++ [.row (zc k).cells .rw]) := by
        rw [store_at (get_push ..) (by simp), set_push]
        rfl
      have p1 : (c_command_Parse n).command_Command_fill = w_command_Command_fill n := rfl
      have c0 := cells_get σ (fillV (parseV n) k r more).2
      have hb : ∀ (x : Blk) b, b < σ.length → (σ ++ [x])[b]? = σ[b]? := fun x b hb => List.getElem?_append_left hb
      simp only [alloc]
      rw [hst, Option.bind_some, p1, w_command_Command_fill_eq hp, Option.bind_some, set_push]
      simp only
      simp only [ansV]
      by_cases h0 : (fillV (parseV n) k r more).1 = 0
      · rw [if_neg (by simpa using h0), show ((fillV (parseV n) k r more).1 != 0) = false by simpa using h0, cond_false, c0.1, Option.bind_some, c0.2.1, Option.bind_some, c0.2.2.1, Option.bind_some, c0.2.2.2, Option.bind_some]
        exact ⟨_, rfl, hb _⟩
      · rw [if_pos h0, show ((fillV (parseV n) k r more).1 != 0) = true by simpa using h0, cond_true]
        exact ⟨_, rfl, hb _⟩
    · rw [show (wordsL.getD k [] == f) = false by rw [beq_eq_false_iff_ne]; exact he, Bool.not_false, cond_true, if_neg he, wrap_i64_succ k (by omega)]
      exact Parse_loop hG hr hr1 j (k + 1) m (by omega) (by omega)
theorem refs_cmd (x : Cmd × Int) (p : Nat → Prop) : ((tPair t_command_Command (tInt .i64)).av x).refs p := ⟨⟨trivial, trivial, trivial, trivial, trivial⟩, trivial, trivial⟩
theorem ok_command_Parse : ∀ n, Ok_command_Parse (w_command_Parse n)
  | 0 => fun s σ v σ' h => by
    obtain ⟨⟨_, h0, _⟩, _⟩ := wIf_some h
    omega
  | n + 1 => fun s σ v σ' h => by
    obtain ⟨⟨hG, hs, hs1⟩, e⟩ := wIf_some h
    injection e with e1 e2
    subst e1; subst e2
    obtain ⟨l, rfl⟩ : ∃ l, s = ba l := ⟨_, ba_self s⟩
    rw [ba_size] at hs hs1
    have hl := cutB_len 32 l
    obtain ⟨σ1, h1, h2⟩ := Parse_loop (L := 19) (n := n) (f := (cutB 32 l).1) (r := (cutB 32 l).2.1) (more := (cutB 32 l).2.2) hG (by omega) (by omega) 18 0 19 rfl (by omega)
    have p1 : (c_command_Parse n).strings_Cut = w_strings_Cut := rfl
    have := call_ok ok (K_command_Parse (c_command_Parse n) ok_strings_Cut (ok_command_Command_fill n (ok_command_Parse n))) (L := 19) (n := 2) ((command_Parse_eq (c_command_Parse n) 19 (ba l) σ _).trans (by
      rw [p1, show (⟨#[32]⟩ : ByteArray) = ba [32] from rfl, w_strings_Cut_eq hG hs1, Option.bind_some]
      simp only
      rw [word_cell hG 0 (by decide), Option.bind_some, word_cell hG 1 (by decide), Option.bind_some, word_cell hG 2 (by decide), Option.bind_some, word_cell hG 3 (by decide), Option.bind_some, word_cell hG 4 (by decide), Option.bind_some, word_cell hG 5 (by decide), Option.bind_some, word_cell hG 6 (by decide), Option.bind_some, word_cell hG 7 (by decide), Option.bind_some, word_cell hG 8 (by decide), Option.bind_some, word_cell hG 9 (by decide), Option.bind_some, word_cell hG 10 (by decide), Option.bind_some, word_cell hG 11 (by decide), Option.bind_some, word_cell hG 12 (by decide), Option.bind_some, word_cell hG 13 (by decide), Option.bind_some, word_cell hG 14 (by decide), Option.bind_some, word_cell hG 15 (by decide), Option.bind_some, word_cell hG 16 (by decide), Option.bind_some, word_cell hG 17 (by decide), Option.bind_some]
      exact h1))
    rw [ba_data]
    exact call_gc0 this h2 (refs_cmd _ _)
end Go.Abs.TD
namespace Go.Abs.TD
open Go Go.Abs Go.Proofs Go.RowKit

/-- A key, and the text to which it is bound. -/
abbrev KT := Int × List UInt8
def eKT : El KT := ⟨2, fun p => [.int .u8 p.1, .str (ba p.2)], fun _ => rfl, fun a b h => by
  obtain ⟨a1, a2⟩ := a
  obtain ⟨b1, b2⟩ := b
  simp only [List.cons.injEq, AVal.int.injEq, AVal.str.injEq, true_and, and_true] at h
  rw [h.1, ba_inj h.2]⟩
instance : El.Flat eKT := ⟨fun _ => rfl⟩
theorem kt_cells {s : Sl} {σ : Heap} {l : List KT} (h : s.Is eKT σ l) {i : Nat} {x : KT} (hi : l[i]? = some x) : ∃ b, s.b = some b ∧ int? (σ.cell? b (s.o + i * 2)) .u8 = some x.1 ∧ str? (σ.cell? b ((s.o + i * 2) + 1)) = some (ba x.2) := by
  obtain ⟨b, hb, hc⟩ := h.cell hi
  refine ⟨b, hb, ?_, ?_⟩
  · have := hc 0 (by decide)
    rw [show eKT.z = 2 from rfl, Nat.add_zero] at this
    rw [this]; rfl
  · have := hc 1 (by decide)
    rw [show eKT.z = 2 from rfl] at this
    rw [this]; rfl
def headL : List KT := [(32, [112, 97, 117, 115, 101]), (34, [102, 108, 97, 116]), (37, [115, 112, 108, 105, 116]), (46, [115, 116, 101, 112])]
def focusL (i : Nat) : List KT := (List.range i).map fun j => (((48 + j : Nat) : Int), [102, 111, 99, 117, 115, 32] ++ [UInt8.ofNat (48 + j)])
def tailL : List KT := [(108, [108, 105, 118, 101]), (109, [109, 97, 114, 107, 32, 107, 101, 121]), (112, [112, 108, 97, 121, 32, 49, 47, 49]), (114, [114, 101, 119, 105, 110, 100, 32, 48]), (120, [107, 105, 108, 108])]
def stdL : List KT := headL ++ focusL 10 ++ tailL
theorem focusL_len (i : Nat) : (focusL i).length = i := by simp [focusL]
theorem read_new {σ : Heap} {cs : List AVal} {k : Nat} (h : cs.length = k) : Heap.read (σ ++ [.row cs .rw]) (some σ.length) 0 k 1 = some cs := by
  unfold Heap.read Heap.row?
  have : (σ ++ [Blk.row cs .rw])[σ.length]? = some (.row cs .rw) := by simp
  simp only [this, Option.bind_some]
  rw [if_pos (by omega), List.drop_zero, List.take_of_length_le (by omega)]
theorem Standard_loop {L : Nat} {σ0 : Heap} : ∀ (j i m : Nat) (t : Sl) (σ : Heap), i + j = 10 → j < m → Mine eKT σ0 t σ (headL ++ focusL i) →
    ∃ (q : Option Nat × Nat × Nat) (σ1 : Heap), command_Standard_L3 (R := AVal × Heap) L m t ((48 + i : Nat) : Int) σ (fun v σ => some (v, σ)) = some (.slice q.1 q.2.1 q.2.2 2, σ1) ∧ Mine eKT σ0 ⟨q.1, q.2.1, q.2.2⟩ σ1 stdL
  | j, i, 0, t, σ, _, h, _ => by omega
  | 0, i, m + 1, t, σ, hi, _, hm => by
    obtain rfl : i = 10 := by omega
    rw [command_Standard_L3_eq, show decide (((48 + 10 : Nat) : Int) ≤ 57) = false from rfl, cond_false]
    obtain ⟨q, σ1, h1, h2⟩ := hm.append (zs := tailL) (bytes := 24) (vs := eKT.all tailL) (k := 5) rfl rfl (by rw [List.length_append, focusL_len]; decide) (by rw [List.length_append, focusL_len]; decide)
    refine ⟨q, σ1, ?_, h2⟩
    have h1' : Heap.append σ t.b t.o t.n 2 24 [.int .u8 108, .str (⟨#[108, 105, 118, 101]⟩ : ByteArray), .int .u8 109, .str (⟨#[109, 97, 114, 107, 32, 107, 101, 121]⟩ : ByteArray), .int .u8 112, .str (⟨#[112, 108, 97, 121, 32, 49, 47, 49]⟩ : ByteArray), .int .u8 114, .str (⟨#[114, 101, 119, 105, 110, 100, 32, 48]⟩ : ByteArray), .int .u8 120, .str (⟨#[107, 105, 108, 108]⟩ : ByteArray)] 5 = some (q, σ1) := h1
    rw [h1', Option.bind_some]
  | j + 1, i, m + 1, t, σ, hi, hm', hm => by
    rw [command_Standard_L3_eq, show decide (((48 + i : Nat) : Int) ≤ 57) = true by simp; omega, cond_true]
    simp only [alloc]
    have hb : bytesOf [AVal.int .u8 ((48 + i : Nat) : Int)] = some [UInt8.ofNat (48 + i)] := by
      show some [UInt8.ofNat (((48 + i : Nat) : Int)).toNat] = _
      rw [Int.toNat_natCast]
    rw [read_new (cs := [AVal.int .u8 ((48 + i : Nat) : Int)]) (k := 1) rfl, Option.bind_some, hb, Option.bind_some]
    have hs := hm.step (pre_push σ (.row [.int .u8 ((48 + i : Nat) : Int)] .rw))
    obtain ⟨q, σ1, h1, h2⟩ := hs.append (zs := [(((48 + i : Nat) : Int), [102, 111, 99, 117, 115, 32] ++ [UInt8.ofNat (48 + i)])]) (bytes := 24) (vs := eKT.all [(((48 + i : Nat) : Int), [102, 111, 99, 117, 115, 32] ++ [UInt8.ofNat (48 + i)])]) (k := 1) rfl rfl
      (by rw [List.length_append, focusL_len]; show (4 + i + 1) * 24 ≤ _; omega) (by rw [List.length_append, focusL_len]; show (4 + i + 1) ≤ _; omega)
    rw [show (⟨[UInt8.ofNat (48 + i)].toArray⟩ : ByteArray) = ba [UInt8.ofNat (48 + i)] from rfl, show (⟨#[102, 111, 99, 117, 115, 32]⟩ : ByteArray) = ba [102, 111, 99, 117, 115, 32] from rfl, ba_append, ba_size, ba_size, if_pos (by simp)]
    have h1' : Heap.append (σ ++ [.row [.int .u8 ((48 + i : Nat) : Int)] .rw]) t.b t.o t.n 2 24 [.int .u8 ((48 + i : Nat) : Int), .str (ba ([102, 111, 99, 117, 115, 32] ++ [UInt8.ofNat (48 + i)]))] 1 = some (q, σ1) := h1
    rw [h1', Option.bind_some, show IntKind.u8.wrap (((48 + i : Nat) : Int) + 1) = ((48 + (i + 1) : Nat) : Int) by rw [IntKind.wrap_u8]; omega]
    refine Standard_loop j (i + 1) m _ _ (by omega) (by omega) ?_
    have e : headL ++ focusL i ++ [(((48 + i : Nat) : Int), [102, 111, 99, 117, 115, 32] ++ [UInt8.ofNat (48 + i)])] = headL ++ focusL (i + 1) := by
      unfold focusL
      rw [List.range_succ, List.map_append, List.append_assoc]
      rfl
    rw [e] at h2
    exact h2
def w_command_Standard (σ : Heap) : Option (Sl × Heap) := some (fresh eKT σ false stdL)
theorem ok_command_Standard : Ok_command_Standard w_command_Standard := fun σ v σ' h => by
  injection h with e
  have hm : Mine eKT σ ⟨some σ.length, 0, 4⟩ (σ ++ [.row (eKT.all headL) .rw]) (headL ++ focusL 0) := ⟨pre_push .., Sl.Own.new (xs := headL), fun c hc => by injection hc with hc; omega⟩
  obtain ⟨q, σ1, h1, h2⟩ := Standard_loop (L := 11) (σ0 := σ) 10 0 11 _ _ rfl (by omega) hm
  have := call_mine (call_ok ok known0_ok (L := 11) (n := 2) ((command_Standard_eq 11 σ _).trans (by simp only [alloc]; exact h1))) h2 (nil := false) (by rw [Own.some_of_ne h2.own (by decide)])
  rw [show (fresh eKT σ false stdL).1 = v by rw [e], show (fresh eKT σ false stdL).2 = σ' by rw [e]] at this
  exact this
/-! ### Find -/
def findB (key : Int) : List KT → List UInt8
  | [] => []
  | x :: r => if x.1 = key then x.2 else findB key r
theorem Find_loop {L : Nat} {s : Sl} {σ : Heap} {xs : List KT} {key : Int} (h : s.Is eKT σ xs) : ∀ (k i m : Nat), i + k = xs.length → k < m →
    command_Table_Find_L2 (R := AVal × Heap) L m key s (i : Int) σ (fun v σ => some (v, σ)) = some (.str (ba (findB key (xs.drop i))), σ)
  | k, i, 0, _, h => by omega
  | 0, i, m + 1, hi, _ => by
    have hn := h.n
    rw [command_Table_Find_L2_eq, hn, lt_false (by omega), cond_false, List.drop_of_length_le (by omega)]
    rfl
  | k + 1, i, m + 1, hi, hm => by
    have hn := h.n
    have hsm := h.small
    have hlt : i < xs.length := by omega
    obtain ⟨b, hb, h1, h2⟩ := kt_cells h (i := i) (x := xs[i]) (List.getElem?_eq_getElem hlt)
    rw [command_Table_Find_L2_eq, hn, lt_true hlt, cond_true, dec0, Bool.true_and, cond_true, hb, Option.bind_some, Int.toNat_natCast, h1, Option.bind_some, h2, Option.bind_some, List.drop_eq_getElem_cons hlt, findB]
    by_cases hk : (xs[i]).1 = key
    · rw [if_pos hk, show ((xs[i]).1 == key) = true by rw [beq_iff_eq]; exact hk, cond_true]
    · rw [if_neg hk, show ((xs[i]).1 == key) = false by rw [beq_eq_false_iff_ne]; exact hk, cond_false, wrap_i64_succ i (by omega)]
      exact Find_loop h k (i + 1) m (by omega) (by omega)
noncomputable def w_command_Table_Find (s : Sl) (key : Int) (σ : Heap) : Option (ByteArray × Heap) := wOf (fun xs : List KT => s.Is eKT σ xs) fun xs => (ba (findB key xs), σ)
theorem w_command_Table_Find_eq {s : Sl} {key : Int} {σ : Heap} {xs : List KT} (h : s.Is eKT σ xs) : w_command_Table_Find s key σ = some (ba (findB key xs), σ) :=
  wOf_eq (x := xs) h fun ys hy => by rw [h.uniq (by decide) hy]
theorem ok_command_Table_Find : Ok_command_Table_Find w_command_Table_Find := fun s key σ v σ' h => by
  obtain ⟨xs, hx, e⟩ := wOf_some h
  injection e with e1 e2
  subst e1; subst e2
  exact call_ok ok known0_ok (L := xs.length + 1) (n := 2) ((command_Table_Find_eq (xs.length + 1) s key σ _).trans (Find_loop hx xs.length 0 _ (by omega) (by omega)))
/-! ### fit -/
noncomputable def c_law21_fit : C_law21_fit := { command_Parse := w_command_Parse 1000, command_Table_Find := w_command_Table_Find, command_Standard := w_command_Standard }
noncomputable def w_law21_fit (σ : Heap) : Option (Bool × Heap) := wIf (GC σ) (true, σ)
theorem w_law21_fit_eq {σ : Heap} (h : GC σ) : w_law21_fit σ = some (true, σ) := wIf_eq h
theorem cut_play : cutB 32 [112, 108, 97, 121, 32, 51, 47, 50] = ([112, 108, 97, 121], [51, 47, 50], true) := by decide
theorem find_play : findW [112, 108, 97, 121] wordsL 0 = some 7 := by decide
theorem cut_32 : cutB 47 [51, 47, 50] = ([51], [50], true) := by decide
theorem num_small {u : Nat} (h : u < 10) : numV [UInt8.ofNat (48 + u)] = ((u : Int), true) := by
  unfold numV
  rw [← decDigits_small h, numD_dec (by omega)]
theorem pair_32 : pairV [51, 47, 50] = (3, 2, true) := by
  unfold pairV
  rw [cut_32]
  simp only
  rw [show ([51] : List UInt8) = [UInt8.ofNat (48 + 3)] from rfl, show ([50] : List UInt8) = [UInt8.ofNat (48 + 2)] from rfl, num_small (by decide), num_small (by decide)]
  rfl
theorem parse_play (n : Nat) : parseV (n + 1) [112, 108, 97, 121, 32, 51, 47, 50] = (⟨7, 3, 2, ba []⟩, 0) := by
  unfold parseV
  rw [cut_play, find_play]
  simp only [ansV]
  have : fillV (parseV n) 7 [51, 47, 50] true = (0, ⟨7, 3, 2, ba []⟩) := by
    unfold fillV
    rw [if_neg (by decide), if_pos (by decide), pair_32]
    rfl
  rw [this]
  rfl
theorem find_kill : findB 120 stdL = [107, 105, 108, 108] := by decide
theorem ok_law21_fit : Ok_law21_fit w_law21_fit := fun σ v σ' h => by
  obtain ⟨hG, e⟩ := wIf_some h
  injection e with e1 e2
  subst e1; subst e2
  have p1 : c_law21_fit.command_Parse = w_command_Parse 1000 := rfl
  have p2 : c_law21_fit.command_Table_Find = w_command_Table_Find := rfl
  have p3 : c_law21_fit.command_Standard = w_command_Standard := rfl
  have hI : (fresh eKT σ false stdL).1.Is eKT (fresh eKT σ false stdL).2 stdL := (fresh_own eKT σ false stdL (fun h => by cases h)).is (by decide)
  have := call_ok ok (K_law21_fit c_law21_fit (ok_command_Parse 1000) ok_command_Table_Find ok_command_Standard) (L := 0) (n := 2) (v := .bool true) (σ' := (fresh eKT σ false stdL).2) ((law21_fit_eq c_law21_fit 0 σ _).trans (by
    rw [p1, p2, p3, show (⟨#[112, 108, 97, 121, 32, 51, 47, 50]⟩ : ByteArray) = ba [112, 108, 97, 121, 32, 51, 47, 50] from rfl, w_command_Parse_eq hG (by decide) (by decide), Option.bind_some, parse_play 999]
    simp only [show ((0 : Int) == 0) = true from rfl, show ((7 : Int) == 7) = true from rfl, show ((3 : Int) == 3) = true from rfl, show ((2 : Int) == 2) = true from rfl, cond_true]
    rw [show w_command_Standard σ = some (fresh eKT σ false stdL) from rfl, Option.bind_some, w_command_Table_Find_eq hI, Option.bind_some, find_kill]
    simp only
    rw [show (⟨#[107, 105, 108, 108]⟩ : ByteArray) = ba [107, 105, 108, 108] from rfl, beq_self_eq_true]))
  exact call_gc0 this (fun b hb => get_pre (fresh_pre ..) hb) trivial
end Go.Abs.TD
namespace Go.Abs.TD
open Go Go.Abs Go.Proofs Go.RowKit

/-! ### Word -/
noncomputable def w_ref21_Word (kind : Int) (σ : Heap) : Option (ByteArray × Heap) := wOf (fun k : Nat => kind = (k : Int) ∧ k < 18) fun k => (wd k, σ)
theorem w_ref21_Word_eq {k : Nat} {σ : Heap} (h : k < 18) : w_ref21_Word (k : Int) σ = some (wd k, σ) := wOf_eq (x := k) ⟨rfl, h⟩ fun y hy => by rw [show y = k by omega]
theorem ok_ref21_Word : Ok_ref21_Word w_ref21_Word := fun kind σ v σ' h => by
  obtain ⟨k, ⟨rfl, hk⟩, e⟩ := wOf_some h
  injection e with e1 e2
  subst e1; subst e2
  have hc : str? ((σ ++ [Blk.row wordsRow .rw]).cell? σ.length (0 + ((k : Int)).toNat * 1)) = some (wd k) := by
    unfold Heap.cell?
    rw [row?_of (get_push ..) (by simp), Option.bind_some, Int.toNat_natCast, Nat.mul_one, Nat.zero_add, words_get hk]
    rfl
  have := call_ok ok known0_ok (L := 0) (n := 2) (v := .str (wd k)) (σ' := σ ++ [Blk.row wordsRow .rw]) ((ref21_Word_eq 0 (k : Int) σ _).trans (by
    simp only [alloc]
    rw [decide_eq_false (show ¬ (k : Int) < 0 by omega), cond_false, decide_eq_false (show ¬ (k : Int) ≥ 18 by omega), cond_false, decide_eq_true (show (0 : Int) ≤ (k : Int) by omega), decide_eq_true (show (k : Int) < 18 by omega), Bool.and_self, cond_true]
    exact (congrArg (fun o => Option.bind o _) hc).trans rfl))
  exact call_gc0 this (fun b hb => List.getElem?_append_left hb) trivial
/-! ### number -/
def rnumV (l : List UInt8) : Int × Bool := match numD l with
  | some u => ((u : Int), true)
  | none => (0, false)
theorem dig_wrap (c : UInt8) : IntKind.i64.wrap (IntKind.i64.wrap ((c.toNat : Nat) : Int) - 48) = (c.toNat : Int) - 48 := by
  have := u8_lt c
  rw [wrap_u8, IntKind.wrap_i64]; omega
theorem wrap_nat {n : Nat} (h : n < 9223372036854775808) : IntKind.i64.wrap (n : Int) = (n : Int) := by
  rw [IntKind.wrap_i64]; omega
theorem num_lim {d : Nat} (h : d < 10) : IntKind.i64.wrap (Int.tdiv (IntKind.i64.wrap (9223372036854775807 - (d : Int))) 10) = (((9223372036854775807 - d) / 10 : Nat) : Int) := by
  rw [show (9223372036854775807 - (d : Int)) = ((9223372036854775807 - d : Nat) : Int) by omega, wrap_nat (by omega), show Int.tdiv ((9223372036854775807 - d : Nat) : Int) 10 = (((9223372036854775807 - d) / 10 : Nat) : Int) from rfl, wrap_nat (by omega)]
/-- What the loop tells of what is left. -/
def restV (acc : Nat) (r : List UInt8) : Int × Bool := if r.all isD = true ∧ valD acc r < 9223372036854775808 then ((valD acc r : Int), true) else (0, false)
theorem rnum_loop {L : Nat} {l : List UInt8} {σ : Heap} (hl : l.length ≤ 1000000) : ∀ (j i m acc : Nat), i + j = l.length → j < m → acc < 9223372036854775808 →
    ref21_number_L5 (R := AVal × Heap) L m (ba l) (acc : Int) (i : Int) σ (fun v σ => some (v, σ)) = some ((tPair (tInt .i64) tBool).av (restV acc (l.drop i)), σ)
  | j, i, 0, acc, _, h, _ => by omega
  | 0, i, m + 1, acc, hi, _, ha => by
    rw [ref21_number_L5_eq, ba_size, lt_false (by omega), cond_false, List.drop_of_length_le (by omega)]
    unfold restV
    rw [if_pos ⟨rfl, ha⟩]
    rfl
  | j + 1, i, m + 1, acc, hi, hm, ha => by
    have hlt : i < l.length := by omega
    rw [ref21_number_L5_eq, ba_size, ba_data, lt_true hlt, cond_true, dec0, Bool.true_and, cond_true, Int.toNat_natCast, dig_wrap, List.drop_eq_getElem_cons hlt,
      show l.getD i 0 = l[i] by rw [List.getD_eq_getElem?_getD, List.getElem?_eq_getElem hlt]; rfl]
    have hall : (l[i] :: l.drop (i + 1)).all isD = (isD l[i] && (l.drop (i + 1)).all isD) := rfl
    by_cases h0 : ((l[i].toNat : Nat) : Int) - 48 < 0
    · rw [decide_eq_true h0, cond_true]
      have : isD l[i] = false := by unfold isD; rw [decide_eq_false (by omega), Bool.false_and]
      unfold restV
      rw [if_neg (by rw [hall, this]; simp)]
      rfl
    · rw [decide_eq_false h0, cond_false]
      by_cases h9 : ((l[i].toNat : Nat) : Int) - 48 > 9
      · rw [decide_eq_true h9, cond_true]
        have : isD l[i] = false := by unfold isD; rw [show decide (l[i].toNat ≤ 57) = false from decide_eq_false (by omega), Bool.and_false]
        unfold restV
        rw [if_neg (by rw [hall, this]; simp)]
        rfl
      · rw [decide_eq_false h9, cond_false]
        have hd : isD l[i] = true := isD_iff.2 (by omega)
        have hdn : ((l[i].toNat : Nat) : Int) - 48 = ((l[i].toNat - 48 : Nat) : Int) := by omega
        rw [hdn, num_lim (by omega)]
        by_cases hov : (acc : Int) > (((9223372036854775807 - (l[i].toNat - 48)) / 10 : Nat) : Int)
        · rw [decide_eq_true hov, cond_true]
          have hg := valD_ge (l.drop (i + 1)) (acc * 10 + (l[i].toNat - 48))
          unfold restV
          rw [if_neg (by rw [valD_cons]; omega)]
          rfl
        · rw [decide_eq_false hov, cond_false, show (10 : Int) * (acc : Int) = ((acc * 10 : Nat) : Int) by omega, wrap_nat (n := acc * 10) (by omega), show ((acc * 10 : Nat) : Int) + ((l[i].toNat - 48 : Nat) : Int) = ((acc * 10 + (l[i].toNat - 48) : Nat) : Int) by omega,
            wrap_nat (by omega), wrap_i64_succ i (by omega), rnum_loop hl j (i + 1) m _ (by omega) (by omega) (by omega)]
          unfold restV
          rw [valD_cons, hall, hd, Bool.true_and]
theorem rnum_none {l : List UInt8} (h : l = [] ∨ 19 < l.length ∨ (1 < l.length ∧ l.getD 0 0 = 48)) : rnumV l = (0, false) := by
  unfold rnumV
  cases hn : numD l with
  | none => rfl
  | some u =>
    obtain ⟨rfl, hu⟩ := numD_some hn
    exfalso
    rcases h with h | h | ⟨h, h2⟩
    · exact (dec_digits u).2.2 h
    · have := dec_len_le (u := u) (k := 19) (by omega) (by decide)
      omega
    · exact dec_noZero u h h2
theorem rnum_rest {l : List UInt8} (h0 : l ≠ []) (h1 : 1 < l.length → l.getD 0 0 ≠ 48) : restV 0 l = rnumV l := by
  unfold rnumV
  cases hn : numD l with
  | some u =>
    obtain ⟨rfl, hu⟩ := numD_some hn
    obtain ⟨d1, d2, d3⟩ := dec_digits u
    unfold restV
    rw [d2, if_pos ⟨List.all_eq_true.2 d1, hu⟩]
  | none =>
    unfold restV
    by_cases hc : l.all isD = true ∧ valD 0 l < 9223372036854775808
    · exfalso
      have := dec_val _ l rfl h0 (List.all_eq_true.1 hc.1) h1
      have h2 := numD_dec hc.2
      rw [this, hn] at h2
      cases h2
    · rw [if_neg hc]
noncomputable def w_ref21_number (s : ByteArray) (σ : Heap) : Option ((Int × Bool) × Heap) := wIf (s.size ≤ 1000000) (rnumV s.data.toList, σ)
theorem w_ref21_number_eq {l : List UInt8} {σ : Heap} (h2 : l.length ≤ 1000000) : w_ref21_number (ba l) σ = some (rnumV l, σ) := by
  have : w_ref21_number (ba l) σ = some (rnumV (ba l).data.toList, σ) := wIf_eq (by rw [ba_size]; exact h2)
  rw [ba_data] at this
  exact this
theorem ok_ref21_number : Ok_ref21_number w_ref21_number := fun s σ v σ' h => by
  obtain ⟨hs, e⟩ := wIf_some h
  injection e with e1 e2
  subst e1; subst e2
  obtain ⟨l, rfl⟩ : ∃ l, s = ba l := ⟨_, ba_self s⟩
  rw [ba_size] at hs
  refine call_ok ok known0_ok (L := l.length + 1) (n := 2) ((ref21_number_eq (l.length + 1) (ba l) σ _).trans ?_)
  have hloop := rnum_loop (L := l.length + 1) (σ := σ) hs l.length 0 (l.length + 1) 0 (by omega) (by omega) (by decide)
  rw [ba_data, ba_size, ba_toList, ba_nil, ba_toList]
  by_cases h0 : l = []
  · rw [show (l == []) = true by rw [beq_iff_eq]; exact h0, cond_true, rnum_none (.inl h0)]
    rfl
  · rw [show (l == []) = false by rw [beq_eq_false_iff_ne]; exact h0, cond_false]
    by_cases h19 : 19 < l.length
    · rw [decide_eq_true (show ((l.length : Nat) : Int) > 19 by omega), cond_true, rnum_none (.inr (.inl h19))]
      rfl
    · rw [decide_eq_false (show ¬ ((l.length : Nat) : Int) > 19 by omega), cond_false]
      by_cases h1 : 1 < l.length
      · rw [decide_eq_true (show ((l.length : Nat) : Int) > 1 by omega), cond_true, decide_eq_true (show (0 : Int) < ((l.length : Nat) : Int) by omega), cond_true]
        by_cases h48 : l.getD 0 0 = 48
        · rw [h48, show (((48 : UInt8).toNat : Int) == 48) = true from rfl, cond_true, rnum_none (.inr (.inr ⟨h1, h48⟩))]
          rfl
        · rw [show (((l.getD 0 0).toNat : Int) == 48) = false by
            rw [beq_eq_false_iff_ne]
            intro e
            exact h48 (UInt8.toNat_inj.1 (by have : (48 : UInt8).toNat = 48 := rfl; omega)), cond_false, ← rnum_rest h0 (fun _ => h48)]
          exact hloop
      · rw [decide_eq_false (show ¬ ((l.length : Nat) : Int) > 1 by omega), cond_false, ← rnum_rest h0 (fun h => absurd h h1)]
        exact hloop
/-! ### pair -/
def rpairV (l : List UInt8) : Int × Int × Bool :=
  if (cutB 47 l).2.2 = true then ((rnumV (cutB 47 l).1).1, (rnumV (cutB 47 l).2.1).1, (rnumV (cutB 47 l).1).2 && (rnumV (cutB 47 l).2.1).2) else (0, 0, false)
noncomputable def c_ref21_pair : C_ref21_pair := { ref21_number := w_ref21_number }
theorem take_cut {l : List UInt8} {i : Nat} (h : 47 ∉ l.take i) (hi : i < l.length) (he : l[i] = 47) : cutB 47 l = (l.take i, l.drop (i + 1), true) := by
  have : l = l.take i ++ 47 :: l.drop (i + 1) := by
    rw [← he, List.getElem_cons_drop, List.take_append_drop]
  conv => lhs; rw [this]
  exact cutB_at 47 _ _ h
theorem rpair_loop {L : Nat} {l : List UInt8} {σ : Heap} (hl : l.length ≤ 1000000) : ∀ (j i m : Nat), i + j = l.length → j < m → 47 ∉ l.take i →
    ref21_pair_L2 (R := AVal × Heap) c_ref21_pair L m (ba l) (i : Int) σ (fun v σ => some (v, σ)) = some ((tTrip (tInt .i64) (tInt .i64) tBool).av (rpairV l), σ)
  | j, i, 0, _, h, _ => by omega
  | 0, i, m + 1, hi, _, hn => by
    rw [ref21_pair_L2_eq, ba_size, lt_false (by omega), cond_false]
    unfold rpairV
    rw [List.take_of_length_le (by omega)] at hn
    rw [cutB_no 47 l hn]
    rfl
  | j + 1, i, m + 1, hi, hm, hn => by
    have hlt : i < l.length := by omega
    have p1 : c_ref21_pair.ref21_number = w_ref21_number := rfl
    rw [ref21_pair_L2_eq, ba_size, ba_data, lt_true hlt, cond_true, dec0, Bool.true_and, cond_true, Int.toNat_natCast, p1,
      show l.getD i 0 = l[i] by rw [List.getD_eq_getElem?_getD, List.getElem?_eq_getElem hlt]; rfl]
    by_cases he : l[i] = 47
    · rw [he, show (((47 : UInt8).toNat : Int) == 47) = true from rfl, cond_true, Bool.true_and, decide_eq_true (show (i : Int) ≤ (l.length : Int) by omega), cond_true, ba_to, w_ref21_number_eq (by rw [List.length_take]; omega), Option.bind_some, wrap_i64_succ i (by omega), dec0, Bool.true_and, decide_eq_true (show ((i + 1 : Nat) : Int) ≤ (l.length : Int) by omega),
        decide_eq_true (Int.le_refl _), Bool.and_self, cond_true, Int.toNat_natCast, ba_from]
      simp only
      rw [w_ref21_number_eq (by rw [List.length_drop]; omega), Option.bind_some]
      unfold rpairV
      rw [take_cut hn hlt he, if_pos rfl]
      simp only
      cases (rnumV (l.take i)).2 <;> rfl
    · rw [show (((l[i]).toNat : Int) == 47) = false by
            rw [beq_eq_false_iff_ne]
            intro e
            exact he (UInt8.toNat_inj.1 (by have : (47 : UInt8).toNat = 47 := rfl; omega)), cond_false, wrap_i64_succ i (by omega)]
      refine rpair_loop hl j (i + 1) m (by omega) (by omega) ?_
      rw [List.take_add_one, List.getElem?_eq_getElem hlt]
      simp only [Option.toList_some, List.mem_append, List.mem_singleton, not_or]
      exact ⟨hn, fun e => he e.symm⟩
noncomputable def w_ref21_pair (s : ByteArray) (σ : Heap) : Option ((Int × Int × Bool) × Heap) := wIf (s.size ≤ 1000000) (rpairV s.data.toList, σ)
theorem w_ref21_pair_eq {l : List UInt8} {σ : Heap} (h2 : l.length ≤ 1000000) : w_ref21_pair (ba l) σ = some (rpairV l, σ) := by
  have : w_ref21_pair (ba l) σ = some (rpairV (ba l).data.toList, σ) := wIf_eq (by rw [ba_size]; exact h2)
  rw [ba_data] at this
  exact this
theorem ok_ref21_pair : Ok_ref21_pair w_ref21_pair := fun s σ v σ' h => by
  obtain ⟨hs, e⟩ := wIf_some h
  injection e with e1 e2
  subst e1; subst e2
  obtain ⟨l, rfl⟩ : ∃ l, s = ba l := ⟨_, ba_self s⟩
  rw [ba_size] at hs
  rw [ba_data]
  exact call_ok ok (K_ref21_pair c_ref21_pair ok_ref21_number) (L := l.length + 1) (n := 2) ((ref21_pair_eq c_ref21_pair (l.length + 1) (ba l) σ _).trans (rpair_loop hs l.length 0 _ (by omega) (by omega) (by simp)))
end Go.Abs.TD
namespace Go.Abs.TD
open Go Go.Abs Go.Proofs Go.RowKit

def cv (x : Cmd × Int) : ref21_Cmd × Int := (⟨x.1.Kind, x.1.N, x.1.M, x.1.Text⟩, x.2)
def errC (n : Int) : Cmd × Int := (zc 0, n)
def rboundV (rv : List UInt8 → Cmd × Int) (k : Int) (rest : List UInt8) : Cmd × Int :=
  if rest.length < 2 then errC 1
  else if (rest.getD 0 0).toNat < 33 then errC 1
  else if 126 < (rest.getD 0 0).toNat then errC 1
  else if rest.getD 1 0 ≠ 32 then errC 1
  else if 42 < rest.length then errC 2
  else if (rv (rest.drop 2)).2 = 0 then (if (rv (rest.drop 2)).1.Kind < 16 then (⟨k, ((rest.getD 0 0).toNat : Int), 0, ba (rest.drop 2)⟩, 0) else errC 1)
  else errC 1
def behindV (rv : List UInt8 → Cmd × Int) (k : Nat) (rest : List UInt8) : Cmd × Int :=
  if k = 3 ∨ k = 5 ∨ k = 14 then (if (rnumV rest).2 = true then (⟨k, (rnumV rest).1, 0, ba []⟩, 0) else errC 1)
  else if k = 7 ∨ k = 13 then (if (rpairV rest).2.2 = true then (⟨k, (rpairV rest).1, (rpairV rest).2.1, ba []⟩, 0) else errC 1)
  else if k = 4 ∨ k = 6 then (if 40 < rest.length then errC 2 else (⟨k, 0, 0, ba rest⟩, 0))
  else if k = 16 then rboundV rv k rest
  else if k = 17 then (if keyV rest = true then (⟨k, ((rest.getD 0 0).toNat : Int), 0, ba []⟩, 0) else errC 1)
  else errC 1
def noarg (k : Nat) : Bool := decide (k = 0 ∨ k = 1 ∨ k = 2 ∨ k = 8 ∨ k = 9 ∨ k = 10 ∨ k = 11 ∨ k = 12 ∨ k = 15)
def goR (rv : List UInt8 → Cmd × Int) (s : List UInt8) : List (List UInt8) → Nat → Cmd × Int
  | [], _ => errC 1
  | w :: r, k => if s = w then (if noarg k = true then (zc k, 0) else errC 1)
    else if w.length < s.length ∧ s.take w.length = w ∧ s.getD w.length 0 = 32 then behindV rv k (s.drop (w.length + 1)) else goR rv s r (k + 1)
def refV : Nat → List UInt8 → Cmd × Int
  | 0, _ => errC 1
  | n + 1, s => goR (refV n) s wordsL 0
noncomputable def w_ref21_Parse (n : Nat) (s : ByteArray) (σ : Heap) : Option ((ref21_Cmd × Int) × Heap) := wIf (s.size < n ∧ s.size ≤ 1000000) (cv (refV n s.data.toList), σ)
theorem w_ref21_Parse_eq {n : Nat} {l : List UInt8} {σ : Heap} (h2 : l.length < n) (h3 : l.length ≤ 1000000) : w_ref21_Parse n (ba l) σ = some (cv (refV n l), σ) := by
  have : w_ref21_Parse n (ba l) σ = some (cv (refV n (ba l).data.toList), σ) := wIf_eq ⟨by rw [ba_size]; exact h2, by rw [ba_size]; exact h3⟩
  rw [ba_data] at this
  exact this
noncomputable def c_ref21_behind (n : Nat) : C_ref21_behind := { ref21_Parse := w_ref21_Parse n, ref21_number := w_ref21_number, ref21_pair := w_ref21_pair }
noncomputable def w_ref21_behind (n : Nat) (kind : Int) (rest : ByteArray) (σ : Heap) : Option ((ref21_Cmd × Int) × Heap) :=
  wOf (fun k : Nat => kind = (k : Int) ∧ k < 18 ∧ rest.size ≤ n ∧ rest.size ≤ 1000000) fun k => (cv (behindV (refV n) k rest.data.toList), σ)
theorem w_ref21_behind_eq {n k : Nat} {l : List UInt8} {σ : Heap} (hk : k < 18) (h2 : l.length ≤ n) (h3 : l.length ≤ 1000000) : w_ref21_behind n (k : Int) (ba l) σ = some (cv (behindV (refV n) k l), σ) := by
  have := wOf_eq (P := fun j : Nat => (k : Int) = (j : Int) ∧ j < 18 ∧ (ba l).size ≤ n ∧ (ba l).size ≤ 1000000) (f := fun j => (cv (behindV (refV n) j (ba l).data.toList), σ)) (x := k) ⟨rfl, hk, by rw [ba_size]; exact h2, by rw [ba_size]; exact h3⟩ fun y hy => by rw [show y = k by omega]
  rw [ba_data] at this
  exact this
abbrev tRP : Ty (ref21_Cmd × Int) := tPair t_ref21_Cmd (tInt .i64)
theorem byte_ne {c : UInt8} {n : Nat} (hn : n < 256) : (((c.toNat : Nat) : Int) == (n : Int)) = decide (c = UInt8.ofNat n) := by
  have hc := u8_lt c
  have e : (UInt8.ofNat n).toNat = n := by simp; omega
  by_cases h : c = UInt8.ofNat n
  · rw [decide_eq_true h, h, e, beq_self_eq_true]
  · rw [decide_eq_false h, beq_eq_false_iff_ne]
    intro e2
    exact h (UInt8.toNat_inj.1 (by omega))
theorem ok_ref21_behind (n : Nat) (hP : Ok_ref21_Parse (w_ref21_Parse n)) : Ok_ref21_behind (w_ref21_behind n) := fun kind rest σ v σ' h => by
  obtain ⟨k, ⟨rfl, h18, hs, hs1⟩, e⟩ := wOf_some h
  injection e with e1 e2
  subst e1; subst e2
  obtain ⟨l, rfl⟩ : ∃ l, rest = ba l := ⟨_, ba_self rest⟩
  rw [ba_size] at hs hs1
  refine call_ok ok (K_ref21_behind (c_ref21_behind n) hP ok_ref21_number ok_ref21_pair) (L := 0) (n := 2) ((ref21_behind_eq (c_ref21_behind n) 0 (k : Int) (ba l) σ _).trans ?_)
  have p1 : (c_ref21_behind n).ref21_Parse = w_ref21_Parse n := rfl
  have p2 : (c_ref21_behind n).ref21_number = w_ref21_number := rfl
  have p3 : (c_ref21_behind n).ref21_pair = w_ref21_pair := rfl
  rw [ba_size, ba_data]
  have hnum : behindV (refV n) k l = (if (rnumV l).2 = true then (⟨k, (rnumV l).1, 0, ba []⟩, 0) else errC 1) → ((c_ref21_behind n).ref21_number (ba l) σ).bind (fun q3 => bif (!q3.1.2) then (some (AVal.tuple [.agg [.int .i64 0, .int .i64 0, .int .i64 0, .str (⟨#[]⟩ : ByteArray)], .int .i64 1], q3.2)) else some (AVal.tuple [.agg [.int .i64 (k : Int), .int .i64 q3.1.1, .int .i64 0, .str (⟨#[]⟩ : ByteArray)], .int .i64 0], q3.2)) = some (tRP.av (cv (behindV (refV n) k l)), σ) := fun hf => by
    rw [hf, p2, w_ref21_number_eq hs1, Option.bind_some]
    cases (rnumV l).2 <;> rfl
  have hpair : behindV (refV n) k l = (if (rpairV l).2.2 = true then (⟨k, (rpairV l).1, (rpairV l).2.1, ba []⟩, 0) else errC 1) → ((c_ref21_behind n).ref21_pair (ba l) σ).bind (fun q4 => bif (!q4.1.2.2) then (some (AVal.tuple [.agg [.int .i64 0, .int .i64 0, .int .i64 0, .str (⟨#[]⟩ : ByteArray)], .int .i64 1], q4.2)) else some (AVal.tuple [.agg [.int .i64 (k : Int), .int .i64 q4.1.1, .int .i64 q4.1.2.1, .str (⟨#[]⟩ : ByteArray)], .int .i64 0], q4.2)) = some (tRP.av (cv (behindV (refV n) k l)), σ) := fun hf => by
    rw [hf, p3, w_ref21_pair_eq hs1, Option.bind_some]
    cases (rpairV l).2.2 <;> rfl
  have htext : behindV (refV n) k l = (if 40 < l.length then errC 2 else (⟨k, 0, 0, ba l⟩, 0)) → (bif (decide ((l.length : Int) > 40)) then some (AVal.tuple [.agg [.int .i64 0, .int .i64 0, .int .i64 0, .str (⟨#[]⟩ : ByteArray)], .int .i64 2], σ) else some (AVal.tuple [.agg [.int .i64 (k : Int), .int .i64 0, .int .i64 0, .str (ba l)], .int .i64 0], σ)) = some (tRP.av (cv (behindV (refV n) k l)), σ) := fun hf => by
    rw [hf]
    by_cases h40 : 40 < l.length
    · rw [if_pos h40, decide_eq_true (show ((l.length : Nat) : Int) > 40 by omega)]; rfl
    · rw [if_neg h40, decide_eq_false (show ¬ ((l.length : Nat) : Int) > 40 by omega)]; rfl
  have hplain : behindV (refV n) k l = errC 1 → some (AVal.tuple [.agg [.int .i64 0, .int .i64 0, .int .i64 0, .str (⟨#[]⟩ : ByteArray)], .int .i64 1], σ) = some (tRP.av (cv (behindV (refV n) k l)), σ) := fun hf => by
    rw [hf]; rfl
  have hkey : behindV (refV n) k l = (if keyV l = true then (⟨k, ((l.getD 0 0).toNat : Int), 0, ba []⟩, 0) else errC 1) →
      (bif ((l.length : Int) == 1) then (
            bif (decide (0 < (l.length : Int))) then (
              bif (decide (((l.getD 0 0).toNat : Int) ≥ 33)) then (
                bif (decide (0 < (l.length : Int))) then (
                  bif (decide (((l.getD 0 0).toNat : Int) ≤ 126)) then (
                    bif (decide (0 < (l.length : Int))) then (
                      some (AVal.tuple [.agg [.int .i64 (k : Int), .int .i64 (IntKind.i64.wrap ((l.getD 0 0).toNat : Int)), .int .i64 0, .str (⟨#[]⟩ : ByteArray)], .int .i64 0], σ))
                    else
                    none)
                  else some (AVal.tuple [.agg [.int .i64 0, .int .i64 0, .int .i64 0, .str (⟨#[]⟩ : ByteArray)], .int .i64 1], σ))
                else none)
              else some (AVal.tuple [.agg [.int .i64 0, .int .i64 0, .int .i64 0, .str (⟨#[]⟩ : ByteArray)], .int .i64 1], σ))
            else none)
          else some (AVal.tuple [.agg [.int .i64 0, .int .i64 0, .int .i64 0, .str (⟨#[]⟩ : ByteArray)], .int .i64 1], σ)) = some (tRP.av (cv (behindV (refV n) k l)), σ) := fun hf => by
    rw [hf]
    match l with
    | [] => rfl
    | a :: b :: r =>
      have : ((((a :: b :: r).length : Nat) : Int) == 1) = false := by rw [beq_eq_false_iff_ne]; simp only [List.length_cons]; omega
      rw [this]; rfl
    | [c] =>
      rw [wrap_u8]
      simp only [List.length_singleton, List.getD_cons_zero]
      rw [show ((((1 : Nat) : Int)) == 1) = true from rfl, cond_true, show decide ((0 : Int) < ((1 : Nat) : Int)) = true from rfl, cond_true, cond_true, cond_true]
      have hkv : keyV [c] = true ↔ 33 ≤ c.toNat ∧ c.toNat ≤ 126 := by
        show (decide (32 < c.toNat) && decide (c.toNat < 127)) = true ↔ _
        rw [Bool.and_eq_true, decide_eq_true_eq, decide_eq_true_eq]
        omega
      by_cases h1 : 33 ≤ c.toNat
      · rw [decide_eq_true (show ((c.toNat : Nat) : Int) ≥ 33 by omega), cond_true]
        by_cases h2 : c.toNat ≤ 126
        · rw [decide_eq_true (show ((c.toNat : Nat) : Int) ≤ 126 by omega), cond_true, if_pos (hkv.2 ⟨h1, h2⟩)]; rfl
        · rw [decide_eq_false (show ¬ ((c.toNat : Nat) : Int) ≤ 126 by omega), cond_false, if_neg (fun h => h2 (hkv.1 h).2)]; rfl
      · rw [decide_eq_false (show ¬ ((c.toNat : Nat) : Int) ≥ 33 by omega), cond_false, if_neg (fun h => h1 (hkv.1 h).1)]; rfl
  have hbound : behindV (refV n) k l = rboundV (refV n) k l →
      (bif (decide ((l.length : Int) < 2)) then (
              some (AVal.tuple [.agg [.int .i64 0, .int .i64 0, .int .i64 0, .str (⟨#[]⟩ : ByteArray)], .int .i64 1], σ))
            else
            bif (decide (0 < (l.length : Int))) then (
              bif (decide (((l.getD 0 0).toNat : Int) < 33)) then (
                some (AVal.tuple [.agg [.int .i64 0, .int .i64 0, .int .i64 0, .str (⟨#[]⟩ : ByteArray)], .int .i64 1], σ))
              else
              bif (decide (0 < (l.length : Int))) then (
                bif (decide (((l.getD 0 0).toNat : Int) > 126)) then (
                  some (AVal.tuple [.agg [.int .i64 0, .int .i64 0, .int .i64 0, .str (⟨#[]⟩ : ByteArray)], .int .i64 1], σ))
                else
                bif (decide (1 < (l.length : Int))) then (
                  bif (((l.getD 1 0).toNat : Int) != 32) then (
                    some (AVal.tuple [.agg [.int .i64 0, .int .i64 0, .int .i64 0, .str (⟨#[]⟩ : ByteArray)], .int .i64 1], σ))
                  else
                  bif (decide ((l.length : Int) > 42)) then (
                    some (AVal.tuple [.agg [.int .i64 0, .int .i64 0, .int .i64 0, .str (⟨#[]⟩ : ByteArray)], .int .i64 2], σ))
                  else
                  bif ((decide (2 ≤ (l.length : Int))) && (decide ((l.length : Int) ≤ (l.length : Int)))) then (
                    ((c_ref21_behind n).ref21_Parse ((ba l).extract 2 l.length) σ).bind fun q5 =>
                    bif (decide (0 < (l.length : Int))) then (
                      bif ((decide (2 ≤ (l.length : Int))) && (decide ((l.length : Int) ≤ (l.length : Int)))) then (
                        bif (q5.1.2 == 0) then (
                          bif (!(decide (q5.1.1.Kind < 16))) then (
                            some (AVal.tuple [.agg [.int .i64 0, .int .i64 0, .int .i64 0, .str (⟨#[]⟩ : ByteArray)], .int .i64 1], q5.2))
                          else
                          some (AVal.tuple [.agg [.int .i64 (k : Int), .int .i64 (IntKind.i64.wrap ((l.getD 0 0).toNat : Int)), .int .i64 0, .str ((ba l).extract 2 l.length)], .int .i64 0], q5.2))
                        else some (AVal.tuple [.agg [.int .i64 0, .int .i64 0, .int .i64 0, .str (⟨#[]⟩ : ByteArray)], .int .i64 1], q5.2))
                      else none)
                    else none)
                  else none)
                else none)
              else none)
            else none) = some (tRP.av (cv (behindV (refV n) k l)), σ) := fun hf => by
    rw [hf, p1]
    unfold rboundV
    by_cases h2 : l.length < 2
    · rw [if_pos h2, decide_eq_true (show (l.length : Int) < 2 by omega), cond_true]; rfl
    · rw [if_neg h2, decide_eq_false (show ¬ (l.length : Int) < 2 by omega), cond_false, decide_eq_true (show (0 : Int) < (l.length : Int) by omega), cond_true, cond_true, decide_eq_true (show (1 : Int) < (l.length : Int) by omega), cond_true]
      by_cases h33 : (l.getD 0 0).toNat < 33
      · rw [if_pos h33, decide_eq_true (show ((l.getD 0 0).toNat : Int) < 33 by omega), cond_true]; rfl
      · rw [if_neg h33, decide_eq_false (show ¬ ((l.getD 0 0).toNat : Int) < 33 by omega), cond_false]
        by_cases h126 : 126 < (l.getD 0 0).toNat
        · rw [if_pos h126, decide_eq_true (show ((l.getD 0 0).toNat : Int) > 126 by omega), cond_true]; rfl
        · rw [if_neg h126, decide_eq_false (show ¬ ((l.getD 0 0).toNat : Int) > 126 by omega), cond_false]
          have hb : (((l.getD 1 0).toNat : Int) != 32) = !decide (l.getD 1 0 = 32) := by
            rw [bne, show (32 : Int) = ((32 : Nat) : Int) from rfl, byte_ne (by decide)]; rfl
          rw [hb]
          by_cases h32 : l.getD 1 0 = 32
          · rw [if_neg (by simpa using h32), decide_eq_true h32, Bool.not_true, cond_false]
            by_cases h42 : 42 < l.length
            · rw [if_pos h42, decide_eq_true (show (l.length : Int) > 42 by omega), cond_true]; rfl
            · rw [if_neg h42, decide_eq_false (show ¬ (l.length : Int) > 42 by omega), cond_false, decide_eq_true (show (2 : Int) ≤ (l.length : Int) by omega), decide_eq_true (Int.le_refl _), Bool.and_self, cond_true, ba_from,
                w_ref21_Parse_eq (by rw [List.length_drop]; omega) (by rw [List.length_drop]; omega), Option.bind_some, wrap_u8]
              simp only [cond_true, cv]
              by_cases h0 : (refV n (l.drop 2)).2 = 0
              · rw [if_pos h0, show ((refV n (l.drop 2)).2 == 0) = true by rw [beq_iff_eq]; exact h0, cond_true]
                by_cases h16 : (refV n (l.drop 2)).1.Kind < 16
                · rw [if_pos h16]
                  exact (congrArg (fun b : Bool => bif !b then _ else _) (decide_eq_true h16 : decide ((refV n (l.drop 2)).1.Kind < 16) = true)).trans rfl
                · rw [if_neg h16]
                  exact (congrArg (fun b : Bool => bif !b then _ else _) (decide_eq_false h16 : decide ((refV n (l.drop 2)).1.Kind < 16) = false)).trans rfl
              · rw [if_neg h0, show ((refV n (l.drop 2)).2 == 0) = false by rw [beq_eq_false_iff_ne]; exact h0, cond_false]; rfl
          · rw [if_pos h32, decide_eq_false h32, Bool.not_false, cond_true]; rfl
  match k, h18, hnum, hpair, htext, hbound, hkey, hplain with
  | 0, _, _, _, _, _, _, h => exact h rfl
  | 1, _, _, _, _, _, _, h => exact h rfl
  | 2, _, _, _, _, _, _, h => exact h rfl
  | 3, _, h, _, _, _, _, _ => exact h rfl
  | 4, _, _, _, h, _, _, _ => exact h rfl
  | 5, _, h, _, _, _, _, _ => exact h rfl
  | 6, _, _, _, h, _, _, _ => exact h rfl
  | 7, _, _, h, _, _, _, _ => exact h rfl
  | 8, _, _, _, _, _, _, h => exact h rfl
  | 9, _, _, _, _, _, _, h => exact h rfl
  | 10, _, _, _, _, _, _, h => exact h rfl
  | 11, _, _, _, _, _, _, h => exact h rfl
  | 12, _, _, _, _, _, _, h => exact h rfl
  | 13, _, _, h, _, _, _, _ => exact h rfl
  | 14, _, h, _, _, _, _, _ => exact h rfl
  | 15, _, _, _, _, _, _, h => exact h rfl
  | 16, _, _, _, _, h, _, _ => exact h rfl
  | 17, _, _, _, _, _, h, _ => exact h rfl
  | k + 18, hk, _, _, _, _, _, _ => omega
end Go.Abs.TD
namespace Go.Abs.TD
open Go Go.Abs Go.Proofs Go.RowKit

noncomputable def c_ref21_Parse (n : Nat) : C_ref21_Parse := { ref21_Word := w_ref21_Word, ref21_behind := w_ref21_behind n }
theorem wd_len (k : Nat) : (wd k).size = (wordsL.getD k []).length := ba_size _
theorem words_len {k : Nat} (h : k < 18) : (wordsL.getD k []).length ≤ 6 := by
  match k, h with
  | 0, _ | 1, _ | 2, _ | 3, _ | 4, _ | 5, _ | 6, _ | 7, _ | 8, _ | 9, _ | 10, _ | 11, _ | 12, _ | 13, _ | 14, _ | 15, _ | 16, _ | 17, _ => decide
  | k + 18, h => omega
theorem rParse_loop {L n : Nat} {l : List UInt8} {σ : Heap} (hl : l.length ≤ n) (hl1 : l.length ≤ 1000000) : ∀ (j k m : Nat), k + j = 18 → j < m →
    ref21_Parse_L2 (R := AVal × Heap) (c_ref21_Parse n) L m (ba l) (k : Int) σ (fun v σ => some (v, σ)) = some (tRP.av (cv (goR (refV n) l (wordsL.drop k) k)), σ)
  | j, k, 0, _, h => by omega
  | 0, k, m + 1, hk, _ => by
    obtain rfl : k = 18 := by omega
    rw [ref21_Parse_L2_eq, show decide (((18 : Nat) : Int) < 18) = false from rfl, cond_false, ref21_Parse_J20_eq]
    rfl
  | j + 1, k, m + 1, hk, hm => by
    have h18 : k < 18 := by omega
    have p1 : (c_ref21_Parse n).ref21_Word = w_ref21_Word := rfl
    have p2 : (c_ref21_Parse n).ref21_behind = w_ref21_behind n := rfl
    have ih := rParse_loop (L := L) (σ := σ) hl hl1 j (k + 1) m (by omega) (by omega)
    have hw6 := words_len h18
    rw [ref21_Parse_L2_eq, show decide ((k : Int) < 18) = true by simp; omega, cond_true, p1, w_ref21_Word_eq h18, Option.bind_some, words_drop h18, goR]
    simp only [wd_len, ba_size, ba_data]
    unfold wd
    simp only [ba_toList]
    by_cases he : l = wordsL.getD k []
    · rw [show (l == wordsL.getD k []) = true by rw [beq_iff_eq]; exact he, cond_true, if_pos he]
      clear ih hk he hw6
      match k, h18 with
      | 0, _ | 1, _ | 2, _ | 3, _ | 4, _ | 5, _ | 6, _ | 7, _ | 8, _ | 9, _ | 10, _ | 11, _ | 12, _ | 13, _ | 14, _ | 15, _ | 16, _ | 17, _ => rfl
      | k + 18, h => omega
    · rw [show (l == wordsL.getD k []) = false by rw [beq_eq_false_iff_ne]; exact he, cond_false, if_neg he, wrap_i64_succ k (by omega), wrap_i64_succ _ (by omega)]
      by_cases hlt : (wordsL.getD k []).length < l.length
      · rw [decide_eq_true (show (l.length : Int) > ((wordsL.getD k []).length : Int) by omega), cond_true, dec0, Bool.true_and, decide_eq_true (show ((wordsL.getD k []).length : Int) ≤ (l.length : Int) by omega), cond_true, ba_to, ba_toList]
        by_cases ht : l.take (wordsL.getD k []).length = wordsL.getD k []
        · rw [show (l.take (wordsL.getD k []).length == wordsL.getD k []) = true by rw [beq_iff_eq]; exact ht, cond_true, Bool.true_and, cond_true,
            show (32 : Int) = ((32 : Nat) : Int) from rfl, byte_ne (by decide)]
          by_cases h32 : l.getD (wordsL.getD k []).length 0 = 32
          · rw [if_pos ⟨hlt, ht, h32⟩, decide_eq_true (show l.getD (wordsL.getD k []).length 0 = UInt8.ofNat 32 from h32), cond_true, dec0, Bool.true_and, decide_eq_true (show (((wordsL.getD k []).length + 1 : Nat) : Int) ≤ (l.length : Int) by omega), decide_eq_true (Int.le_refl _), Bool.and_self, cond_true, Int.toNat_natCast, ba_from, p2,
              w_ref21_behind_eq h18 (by rw [List.length_drop]; omega) (by rw [List.length_drop]; omega), Option.bind_some]
            rfl
          · rw [if_neg (fun h => h32 h.2.2), decide_eq_false (show ¬ l.getD (wordsL.getD k []).length 0 = UInt8.ofNat 32 from h32), cond_false]
            exact ih
        · rw [if_neg (fun h => ht h.2.1), show (l.take (wordsL.getD k []).length == wordsL.getD k []) = false by rw [beq_eq_false_iff_ne]; exact ht, cond_false]
          exact ih
      · rw [if_neg (fun h => hlt h.1), decide_eq_false (show ¬ (l.length : Int) > ((wordsL.getD k []).length : Int) by omega), cond_false]
        exact ih
theorem ok_ref21_Parse : ∀ n, Ok_ref21_Parse (w_ref21_Parse n)
  | 0 => fun s σ v σ' h => by
    obtain ⟨⟨h0, _⟩, _⟩ := wIf_some h
    omega
  | n + 1 => fun s σ v σ' h => by
    obtain ⟨⟨hs, hs1⟩, e⟩ := wIf_some h
    injection e with e1 e2
    subst e1; subst e2
    obtain ⟨l, rfl⟩ : ∃ l, s = ba l := ⟨_, ba_self s⟩
    rw [ba_size] at hs hs1
    rw [ba_data]
    exact call_ok ok (K_ref21_Parse (c_ref21_Parse n) ok_ref21_Word (ok_ref21_behind n (ok_ref21_Parse n))) (L := 19) (n := 2) ((ref21_Parse_eq (c_ref21_Parse n) 19 (ba l) σ _).trans (rParse_loop (by omega) hs1 18 0 19 rfl (by omega)))
/-! ### The two parsers -/
theorem numV_ok (l : List UInt8) : (rnumV l).2 = (numV l).2 ∧ ((numV l).2 = true → (rnumV l).1 = (numV l).1) := by
  unfold rnumV numV
  cases numD l with
  | some u => exact ⟨rfl, fun _ => rfl⟩
  | none => exact ⟨rfl, fun h => by cases h⟩
theorem pairV_ok (l : List UInt8) : (rpairV l).2.2 = (pairV l).2.2 ∧ ((pairV l).2.2 = true → (rpairV l).1 = (pairV l).1 ∧ (rpairV l).2.1 = (pairV l).2.1) := by
  unfold rpairV pairV
  have h1 := numV_ok (cutB 47 l).1
  have h2 := numV_ok (cutB 47 l).2.1
  cases (cutB 47 l).2.2 with
  | false => exact ⟨rfl, fun h => by cases h⟩
  | true =>
    rw [if_pos rfl]
    simp only [Bool.true_and]
    refine ⟨by rw [h1.1, h2.1], fun h => ?_⟩
    rw [Bool.and_eq_true] at h
    exact ⟨h1.2 h.1, h2.2 h.2⟩
/-- An answer of fill, as Parse tells it. -/
def told (q : Int × Cmd) : Cmd × Int := if q.1 ≠ 0 then (zc 0, q.1) else (q.2, 0)
theorem key_cons {c : UInt8} {r : List UInt8} (h : keyV (cutB 32 (c :: r)).1 = true) : 33 ≤ c.toNat ∧ c.toNat ≤ 126 ∧ (cutB 32 (c :: r)).1 = [c] := by
  unfold cutB at h ⊢
  split at h
  · cases h
  · rename_i hc
    rw [if_neg hc]
    simp only at h ⊢
    obtain ⟨d, hd⟩ := key_one h
    rw [hd] at h ⊢
    injection hd with h1 h2
    subst h1
    simp only [keyV, Bool.and_eq_true, decide_eq_true_eq] at h
    exact ⟨by omega, by omega, rfl⟩
theorem bound_same (pv : List UInt8 → Cmd × Int) (k : Int) (l : List UInt8) : told (boundV pv k l) = rboundV pv k l := by
  have t1 : told (1, zc k) = errC 1 := rfl
  have t2 : told (2, zc k) = errC 2 := rfl
  by_cases hk : keyV (cutB 32 l).1 = true ∧ (cutB 32 l).2.2 = true
  · obtain ⟨hk, hm⟩ := hk
    obtain ⟨c, hc⟩ := key_one hk
    have hl := cutB_more 32 l hm
    rw [hc] at hl hk
    have hkv : 33 ≤ c.toNat ∧ c.toNat ≤ 126 := by
      simp only [keyV, Bool.and_eq_true, decide_eq_true_eq] at hk
      omega
    generalize hb : (cutB 32 l).2.1 = b at hl
    have hd : l.drop 2 = b := by rw [hl]; rfl
    have h0 : l.getD 0 0 = c := by rw [hl]; rfl
    have h1 : l.getD 1 0 = 32 := by rw [hl]; rfl
    have hlen : l.length = b.length + 2 := by rw [hl]; simp
    unfold boundV rboundV
    rw [hc, hb, hd, h0, h1, hm, hlen]
    rw [if_neg (show ¬ keyV [c] = false by rw [hk]; decide), if_neg (show ¬ true = false by decide), if_neg (show ¬ b.length + 2 < 2 by omega), if_neg (show ¬ c.toNat < 33 by omega), if_neg (show ¬ 126 < c.toNat by omega), if_neg (show ¬ ((32 : UInt8) ≠ 32) by decide)]
    by_cases h40 : 40 < b.length
    · rw [if_pos h40, if_pos (show 42 < b.length + 2 by omega), t2]
    · rw [if_neg h40, if_neg (show ¬ 42 < b.length + 2 by omega)]
      by_cases hx : (pv b).2 = 0
      · rw [if_neg (show ¬ (pv b).2 ≠ 0 by simpa using hx), if_pos hx]
        by_cases h16 : 16 ≤ (pv b).1.Kind
        · rw [if_pos h16, if_neg (show ¬ (pv b).1.Kind < 16 by omega), t1]
        · rw [if_neg h16, if_pos (show (pv b).1.Kind < 16 by omega)]; rfl
      · rw [if_pos hx, if_neg hx, t1]
  · have e1 : boundV pv k l = (1, zc k) := by
      unfold boundV
      by_cases h : keyV (cutB 32 l).1 = false
      · rw [if_pos h]
      · rw [if_neg h]
        have : (cutB 32 l).2.2 = false := by
          cases hm : (cutB 32 l).2.2 with
          | false => rfl
          | true => exact absurd ⟨by simpa using h, hm⟩ hk
        rw [if_pos this]
    rw [e1, t1]
    unfold rboundV
    by_cases h2 : l.length < 2
    · rw [if_pos h2]
    · rw [if_neg h2]
      by_cases h33 : (l.getD 0 0).toNat < 33
      · rw [if_pos h33]
      · rw [if_neg h33]
        by_cases h126 : 126 < (l.getD 0 0).toNat
        · rw [if_pos h126]
        · rw [if_neg h126]
          by_cases h32 : l.getD 1 0 = 32
          · exfalso
            apply hk
            match l, h2 with
            | a :: b :: r, _ =>
              have hb : b = 32 := h32
              subst hb
              have ha : a.toNat ≠ 32 := by
                have : ((a :: 32 :: r).getD 0 0).toNat = a.toNat := rfl
                omega
              have : cutB 32 (a :: 32 :: r) = ([a], r, true) := cutB_at 32 [a] r (by simp; intro e; rw [← e] at ha; exact ha rfl)
              rw [this]
              refine ⟨?_, rfl⟩
              have h0 : ((a :: 32 :: r).getD 0 0).toNat = a.toNat := rfl
              simp only [keyV, Bool.and_eq_true, decide_eq_true_eq]
              omega
            | [], h2 => exact absurd (by simp) h2
            | [a], h2 => exact absurd (by simp) h2
          · rw [if_pos h32]
theorem errI_told (b : Bool) (c : Cmd) : told (errI b, c) = if b = true then (c, 0) else errC 1 := by
  cases b <;> rfl
theorem fill_same (pv : List UInt8 → Cmd × Int) (k : Nat) (l : List UInt8) : told (fillV pv k l true) = behindV pv k l := by
  unfold fillV behindV
  by_cases h1 : k = 3 ∨ k = 5 ∨ k = 14
  · rw [if_pos h1, if_pos h1, errI_told]
    have := numV_ok l
    rw [this.1]
    by_cases h : (numV l).2 = true
    · rw [if_pos h, if_pos h, this.2 h]
    · rw [if_neg h, if_neg h]
  · rw [if_neg h1, if_neg h1]
    by_cases h2 : k = 7 ∨ k = 13
    · rw [if_pos h2, if_pos h2, errI_told]
      have := pairV_ok l
      rw [this.1]
      by_cases h : (pairV l).2.2 = true
      · rw [if_pos h, if_pos h, (this.2 h).1, (this.2 h).2]
      · rw [if_neg h, if_neg h]
    · rw [if_neg h2, if_neg h2]
      by_cases h3 : k = 4 ∨ k = 6
      · rw [if_pos h3, if_pos h3]
        by_cases h40 : 40 < l.length
        · rw [if_pos h40, if_pos h40]; rfl
        · rw [if_neg h40, if_neg h40]; rfl
      · rw [if_neg h3, if_neg h3]
        by_cases h4 : k = 16
        · rw [if_pos h4, if_pos h4]
          exact bound_same pv k l
        · rw [if_neg h4, if_neg h4]
          by_cases h6 : k = 17
          · rw [if_pos h6, if_pos h6]
            by_cases hk : keyV l = true
            · rw [if_pos hk, if_pos hk]; rfl
            · rw [if_neg hk, if_neg hk]; rfl
          · rw [if_neg h6, if_neg h6]; rfl
theorem num_nil : (numV []).2 = false := by
  unfold numV
  cases hn : numD [] with
  | none => rfl
  | some u =>
    have := (numD_some hn).1
    exact absurd this.symm (dec_digits u).2.2
theorem fill_none (pv : List UInt8 → Cmd × Int) (k : Nat) (hk : k < 18) : told (fillV pv k [] false) = if noarg k = true then (zc k, 0) else errC 1 := by
  have hp : (pairV []).2.2 = false := rfl
  match k, hk with
  | 0, _ | 1, _ | 2, _ | 8, _ | 9, _ | 10, _ | 11, _ | 12, _ | 15, _ => rfl
  | 3, _ | 5, _ | 14, _ =>
    unfold fillV
    rw [if_pos (by decide), errI_told, num_nil]
    rfl
  | 7, _ | 13, _ => rfl
  | 4, _ | 6, _ => rfl
  | 16, _ => rfl
  | 17, _ => rfl
  | k + 18, h => omega
theorem ansV_told (pv : List UInt8 → Cmd × Int) (r : List UInt8) (more : Bool) (k : Nat) : ansV pv r more (some k) = told (fillV pv k r more) := rfl
theorem words_free {k : Nat} (h : k < 18) : (32 : UInt8) ∉ wordsL.getD k [] := by
  match k, h with
  | 0, _ | 1, _ | 2, _ | 3, _ | 4, _ | 5, _ | 6, _ | 7, _ | 8, _ | 9, _ | 10, _ | 11, _ | 12, _ | 13, _ | 14, _ | 15, _ | 16, _ | 17, _ => decide
  | k + 18, h => omega
theorem go_same (pv : List UInt8 → Cmd × Int) (l : List UInt8) : ∀ (j k : Nat), k + j = 18 → ansV pv (cutB 32 l).2.1 (cutB 32 l).2.2 (findW (cutB 32 l).1 (wordsL.drop k) k) = goR pv l (wordsL.drop k) k
  | 0, k, hk => by
    obtain rfl : k = 18 := by omega
    rfl
  | j + 1, k, hk => by
    have h18 : k < 18 := by omega
    have hfree := words_free h18
    rw [words_drop h18, findW, goR]
    cases hm : (cutB 32 l).2.2 with
    | false =>
      have h0 := cutB_none 32 l hm
      rw [h0.1, h0.2]
      by_cases he : wordsL.getD k [] = l
      · rw [if_pos he, if_pos he.symm, ansV_told, fill_none pv k h18]
      · rw [if_neg he, if_neg (fun e => he e.symm), if_neg]
        · have := go_same pv l j (k + 1) (by omega)
          rw [hm, h0.1, h0.2] at this
          exact this
        · rintro ⟨h1, h2, h3⟩
          have hin := cutB_free 32 l
          rw [h0.1] at hin
          apply hin
          rw [← h3, List.getD_eq_getElem?_getD, List.getElem?_eq_getElem h1]
          exact List.getElem_mem h1
    | true =>
      have hl := cutB_more 32 l hm
      generalize hf : (cutB 32 l).1 = f at hl
      generalize hr : (cutB 32 l).2.1 = r at hl
      by_cases he : wordsL.getD k [] = f
      · rw [if_pos he, if_neg, if_pos, ansV_told, fill_same pv k r]
        · congr 1
          rw [he, hl]
          simp
        · rw [he, hl]
          refine ⟨by simp, by simp, by simp⟩
        · intro e
          rw [hl, ← he] at e
          have := congrArg List.length e
          simp at this
      · rw [if_neg he, if_neg, if_neg]
        · have := go_same pv l j (k + 1) (by omega)
          rw [hm, hf, hr] at this
          exact this
        · rintro ⟨h1, h2, h3⟩
          apply he
          have hdec : l = wordsL.getD k [] ++ 32 :: l.drop ((wordsL.getD k []).length + 1) := by
            have hx : l[(wordsL.getD k []).length] = 32 := by
              have := h3
              rw [List.getD_eq_getElem?_getD (l := l), List.getElem?_eq_getElem h1] at this
              exact this
            conv => lhs; rw [← List.take_append_drop (wordsL.getD k []).length l, h2, List.drop_eq_getElem_cons h1, hx]
          have := cutB_at 32 _ (l.drop ((wordsL.getD k []).length + 1)) hfree
          rw [← hdec] at this
          rw [← hf, this]
        · intro e
          apply hfree
          rw [← e, hl]
          simp
theorem fill_kind (pv : List UInt8 → Cmd × Int) (k : Nat) (r : List UInt8) (more : Bool) : (fillV pv k r more).2.Kind = k := by
  unfold fillV boundV
  split
  · rfl
  · split
    · rfl
    · split
      · split <;> rfl
      · split
        · split
          · rfl
          · split
            · rfl
            · split
              · rfl
              · split
                · rfl
                · split <;> rfl
        · split
          · split <;> rfl
          · rfl
theorem parse_same : ∀ n, parseV n = refV n
  | 0 => rfl
  | n + 1 => by
    funext l
    unfold parseV refV
    rw [← parse_same n]
    exact go_same (parseV n) l 18 0 rfl
/-! ### CommandParses -/
def w_law21_same (c : command_Command) (d : ref21_Cmd) (σ : Heap) : Option (Bool × Heap) := some ((bif c.Kind == d.Kind then (bif c.N == d.N then (bif c.M == d.M then c.Text.toList == d.Text.toList else false) else false) else false), σ)
theorem ok_law21_same : Ok_law21_same w_law21_same := fun c d σ v σ' h => by
  injection h with e
  injection e with e1 e2
  subst e1; subst e2
  refine call_ok ok known0_ok (L := 0) (n := 2) ((law21_same_eq 0 c d σ _).trans ?_)
  cases c.Kind == d.Kind
  · rfl
  · cases c.N == d.N
    · rfl
    · cases c.M == d.M <;> rfl
noncomputable def c_CommandParses : C_law21_CommandParses := { law21_fit := w_law21_fit, command_Parse := w_command_Parse 1000, ref21_Parse := w_ref21_Parse 1000, law21_same := w_law21_same }
theorem law_CommandParses (s : ByteArray) {σ : Heap} (hG : GC σ) : ∃ σ1, CallOK Tryd.prog T 3 [tStr.av s] σ (tBool.av true) σ1 := by
  obtain ⟨l, rfl⟩ : ∃ l, s = ba l := ⟨_, ba_self s⟩
  refine ⟨σ, call_ok ok (K_law21_CommandParses c_CommandParses ok_law21_fit (ok_command_Parse 1000) (ok_ref21_Parse 1000) ok_law21_same) (L := 0) (n := 2) ((law21_CommandParses_eq c_CommandParses 0 (ba l) σ _).trans ?_)⟩
  have p1 : c_CommandParses.law21_fit = w_law21_fit := rfl
  have p2 : c_CommandParses.command_Parse = w_command_Parse 1000 := rfl
  have p3 : c_CommandParses.ref21_Parse = w_ref21_Parse 1000 := rfl
  have p4 : c_CommandParses.law21_same = w_law21_same := rfl
  rw [p1, p2, p3, p4, w_law21_fit_eq hG, Option.bind_some, ba_size]
  simp only [Bool.not_true, cond_false]
  by_cases h : 300 < l.length
  · rw [decide_eq_true (show (l.length : Int) > 300 by omega)]; rfl
  · rw [decide_eq_false (show ¬ (l.length : Int) > 300 by omega), cond_false, w_command_Parse_eq hG (by omega) (by omega), Option.bind_some]
    simp only
    rw [w_ref21_Parse_eq (by omega) (by omega), Option.bind_some, ← parse_same]
    simp only [cv, w_law21_same, beq_self_eq_true, cond_true, Option.bind_some]
    rfl
end Go.Abs.TD
namespace Go.Abs.TD
open Go Go.Abs Go.Proofs Go.RowKit

theorem GC.frz {σ : Heap} (h : GC σ) : GC σ.frz := by
  have key : ∀ {b : Nat} {cs : List AVal}, σ[b]? = some (.row cs .ro) → σ.frz[b]? = some (.row cs .ro) := fun {b cs} hb => by
    rw [Heap.frz_get, hb]; rfl
  obtain ⟨m, hm⟩ := h.max
  exact ⟨key h.words, ⟨m, key hm⟩, key h.pow, key h.syn, key h.rng⟩
def byteV (n : Int) : UInt8 := UInt8.ofNat (IntKind.u8.wrap n).toNat
def printV (k : Nat) (n m : Int) (t : List UInt8) : List UInt8 :=
  if k = 3 ∨ k = 5 ∨ k = 14 then wordsL.getD k [] ++ ([32] ++ Lib.itoa n)
  else if k = 7 ∨ k = 13 then wordsL.getD k [] ++ ((([32] ++ Lib.itoa n) ++ [47]) ++ Lib.itoa m)
  else if k = 4 ∨ k = 6 then wordsL.getD k [] ++ ([32] ++ t)
  else if k = 16 then wordsL.getD k [] ++ ((([32] ++ [byteV n]) ++ [32]) ++ t)
  else if k = 17 then wordsL.getD k [] ++ ([32] ++ [byteV n])
  else wordsL.getD k []
structure PrintPre (c : Cmd) (σ : Heap) (k : Nat) : Prop where
  gc : GC σ
  kind : c.Kind = (k : Int)
  k18 : k < 18
  n : I64 c.N
  m : I64 c.M
  t : c.Text.size ≤ 1000000
noncomputable def w_command_Print (c : Cmd) (σ : Heap) : Option (ByteArray × Heap) := wOf (fun k : Nat => PrintPre c σ k) fun k => (ba (printV k c.N c.M c.Text.data.toList), σ)
theorem w_command_Print_eq {c : Cmd} {σ : Heap} {k : Nat} (h : PrintPre c σ k) : w_command_Print c σ = some (ba (printV k c.N c.M c.Text.data.toList), σ) := wOf_eq (x := k) h fun y hy => by
  have h1 := h.kind
  have h2 := hy.kind
  rw [show y = k by omega]
noncomputable def c_command_Print : C_command_Print := { strconv_Itoa := w_strconv_Itoa }
theorem itoa_small {n : Int} (h : I64 n) : (Lib.itoa n).length ≤ 21 := Lib.itoa_length_le n h.1 h.2
theorem ok_command_Print : Ok_command_Print w_command_Print := fun c σ v σ' h => by
  obtain ⟨k, hp, e⟩ := wOf_some h
  injection e with e1 e2
  subst e1; subst e2
  obtain ⟨K, n, m, t⟩ := c
  obtain ⟨tl, rfl⟩ : ∃ tl, t = ba tl := ⟨_, ba_self t⟩
  obtain rfl : K = (k : Int) := hp.kind
  have hG := hp.gc
  have hn := hp.n
  have hm := hp.m
  have ht := hp.t
  have h18 := hp.k18
  simp only [ba_size] at hn hm ht
  have hw6 := words_len h18
  have ln := itoa_small hn
  have lm := itoa_small hm
  have p1 : c_command_Print.strconv_Itoa = w_strconv_Itoa := rfl
  have key : ∃ σ1, callC (R := AVal × Heap) T (O_command_Print c_command_Print) 0 2 15 [.agg [.int .i64 (k : Int), .int .i64 n, .int .i64 m, .str (ba tl)]] σ (fun v σ => some (v, σ)) = some (.str (ba (printV k n m tl)), σ1) ∧ ∀ b, b < σ.length → σ1[b]? = σ[b]? := by
    have he := command_Print_eq (R := AVal × Heap) c_command_Print 0 ⟨(k : Int), n, m, ba tl⟩ σ (fun v σ => some (v, σ))
    simp only at he
    rw [he]
    rw [decide_eq_false (show ¬ (k : Int) < 0 by omega), cond_false, decide_eq_false (show ¬ (k : Int) > 17 by omega), cond_false, dec0, Bool.true_and, decide_eq_true (show (k : Int) < 18 by omega), cond_true, Int.toNat_natCast, Nat.mul_one, Nat.zero_add, word_cell hG k h18, Option.bind_some]
    have h32 : (⟨#[32]⟩ : ByteArray) = ba [32] := rfl
    have h47 : (⟨#[47]⟩ : ByteArray) = ba [47] := rfl
    have hbb : ∀ x : List UInt8, (⟨x.toArray⟩ : ByteArray) = ba x := fun _ => rfl
    have hwd : wd k = ba (wordsL.getD k []) := rfl
    have hb : bytesOf [AVal.int .u8 (IntKind.u8.wrap n)] = some [byteV n] := rfl
    have hnum : printV k n m tl = wordsL.getD k [] ++ ([32] ++ Lib.itoa n) → ∃ σ1, ((c_command_Print.strconv_Itoa n σ).bind fun q3 =>
          if (⟨#[32]⟩ : ByteArray).size + q3.1.size ≤ 9223372036854775807 then (
            if (wd k).size + ((⟨#[32]⟩ : ByteArray) ++ q3.1).size ≤ 9223372036854775807 then (
              some (AVal.str (wd k ++ ((⟨#[32]⟩ : ByteArray) ++ q3.1)), q3.2))
            else (
              none))
          else (
            none)) = some (.str (ba (printV k n m tl)), σ1) ∧ ∀ b, b < σ.length → σ1[b]? = σ[b]? := fun hf => by
      refine ⟨σ, ?_, fun _ _ => rfl⟩
      rw [hf, p1, w_strconv_Itoa_eq hG hn, Option.bind_some, h32, hwd]
      simp only [ba_append, ba_size]
      rw [if_pos (by simp; omega), if_pos (by simp only [List.length_append, List.length_singleton]; omega)]
    have hpair : printV k n m tl = wordsL.getD k [] ++ ((([32] ++ Lib.itoa n) ++ [47]) ++ Lib.itoa m) → ∃ σ1, ((c_command_Print.strconv_Itoa n (Heap.frz σ)).bind fun q4 =>
            if (⟨#[32]⟩ : ByteArray).size + q4.1.size ≤ 9223372036854775807 then (
              if ((⟨#[32]⟩ : ByteArray) ++ q4.1).size + (⟨#[47]⟩ : ByteArray).size ≤ 9223372036854775807 then (
                (c_command_Print.strconv_Itoa m (Heap.frz (Heap.back σ q4.2))).bind fun q5 =>
                if (((⟨#[32]⟩ : ByteArray) ++ q4.1) ++ (⟨#[47]⟩ : ByteArray)).size + q5.1.size ≤ 9223372036854775807 then (
                  if (wd k).size + ((((⟨#[32]⟩ : ByteArray) ++ q4.1) ++ (⟨#[47]⟩ : ByteArray)) ++ q5.1).size ≤ 9223372036854775807 then (
                    some (AVal.str (wd k ++ ((((⟨#[32]⟩ : ByteArray) ++ q4.1) ++ (⟨#[47]⟩ : ByteArray)) ++ q5.1)), (Heap.back (Heap.back σ q4.2) q5.2)))
                  else (
                    none))
                else (
                  none))
              else (
                none))
            else (
              none)) = some (.str (ba (printV k n m tl)), σ1) ∧ ∀ b, b < σ.length → σ1[b]? = σ[b]? := fun hf => by
      refine ⟨σ, ?_, fun _ _ => rfl⟩
      rw [hf, p1, w_strconv_Itoa_eq hG.frz hn, Option.bind_some, h32, h47, hwd]
      simp only [ba_append, ba_size, Heap.back_frz]
      rw [if_pos (by simp; omega), if_pos (by simp; omega), w_strconv_Itoa_eq hG.frz hm, Option.bind_some]
      simp only [ba_append, ba_size, Heap.back_frz]
      rw [if_pos (by simp; omega), if_pos (by simp only [List.length_append, List.length_singleton]; omega)]
    have htext : printV k n m tl = wordsL.getD k [] ++ ([32] ++ tl) → ∃ σ1, (if (⟨#[32]⟩ : ByteArray).size + (ba tl).size ≤ 9223372036854775807 then (
                if (wd k).size + ((⟨#[32]⟩ : ByteArray) ++ ba tl).size ≤ 9223372036854775807 then (
                  some (AVal.str (wd k ++ ((⟨#[32]⟩ : ByteArray) ++ ba tl)), σ))
                else (
                  none))
              else (
                none)) = some (.str (ba (printV k n m tl)), σ1) ∧ ∀ b, b < σ.length → σ1[b]? = σ[b]? := fun hf => by
      refine ⟨σ, ?_, fun _ _ => rfl⟩
      rw [hf, h32, hwd]
      simp only [ba_append, ba_size]
      rw [if_pos (by simp; omega), if_pos (by simp only [List.length_append, List.length_singleton]; omega)]
    have hbind : printV k n m tl = wordsL.getD k [] ++ ((([32] ++ [byteV n]) ++ [32]) ++ tl) → ∃ σ1, (alloc σ [.int .u8 (IntKind.u8.wrap n)] fun b6 σ7 =>
              (Heap.read σ7 (some b6) 0 1 1).bind fun cs8 =>
              (bytesOf cs8).bind fun bs9 =>
              if (⟨#[32]⟩ : ByteArray).size + (⟨bs9.toArray⟩ : ByteArray).size ≤ 9223372036854775807 then (
                if ((⟨#[32]⟩ : ByteArray) ++ (⟨bs9.toArray⟩ : ByteArray)).size + (⟨#[32]⟩ : ByteArray).size ≤ 9223372036854775807 then (
                  if (((⟨#[32]⟩ : ByteArray) ++ (⟨bs9.toArray⟩ : ByteArray)) ++ (⟨#[32]⟩ : ByteArray)).size + (ba tl).size ≤ 9223372036854775807 then (
                    if (wd k).size + ((((⟨#[32]⟩ : ByteArray) ++ (⟨bs9.toArray⟩ : ByteArray)) ++ (⟨#[32]⟩ : ByteArray)) ++ ba tl).size ≤ 9223372036854775807 then (
                      some (AVal.str (wd k ++ ((((⟨#[32]⟩ : ByteArray) ++ (⟨bs9.toArray⟩ : ByteArray)) ++ (⟨#[32]⟩ : ByteArray)) ++ ba tl)), σ7))
                    else (
                      none))
                  else (
                    none))
                else (
                  none))
              else (
                none)) = some (.str (ba (printV k n m tl)), σ1) ∧ ∀ b, b < σ.length → σ1[b]? = σ[b]? := fun hf => by
      refine ⟨σ ++ [.row [.int .u8 (IntKind.u8.wrap n)] .rw], ?_, fun b hb => List.getElem?_append_left hb⟩
      simp only [alloc]
      rw [hf, read_new (cs := [AVal.int .u8 (IntKind.u8.wrap n)]) (k := 1) rfl, Option.bind_some, hb, Option.bind_some, h32, hwd, hbb]
      simp only [ba_append, ba_size]
      rw [if_pos (by simp), if_pos (by simp), if_pos (by simp; omega), if_pos (by simp only [List.length_append, List.length_singleton]; omega)]
    have hunbind : printV k n m tl = wordsL.getD k [] ++ ([32] ++ [byteV n]) → ∃ σ1, (alloc σ [.int .u8 (IntKind.u8.wrap n)] fun b6 σ7 =>
              (Heap.read σ7 (some b6) 0 1 1).bind fun cs8 =>
              (bytesOf cs8).bind fun bs9 =>
              if (⟨#[32]⟩ : ByteArray).size + (⟨bs9.toArray⟩ : ByteArray).size ≤ 9223372036854775807 then (
                if (wd k).size + ((⟨#[32]⟩ : ByteArray) ++ (⟨bs9.toArray⟩ : ByteArray)).size ≤ 9223372036854775807 then (
                  some (AVal.str (wd k ++ ((⟨#[32]⟩ : ByteArray) ++ (⟨bs9.toArray⟩ : ByteArray))), σ7))
                else (
                  none))
              else (
                none)) = some (.str (ba (printV k n m tl)), σ1) ∧ ∀ b, b < σ.length → σ1[b]? = σ[b]? := fun hf => by
      refine ⟨σ ++ [.row [.int .u8 (IntKind.u8.wrap n)] .rw], ?_, fun b hb => List.getElem?_append_left hb⟩
      simp only [alloc]
      rw [hf, read_new (cs := [AVal.int .u8 (IntKind.u8.wrap n)]) (k := 1) rfl, Option.bind_some, hb, Option.bind_some, h32, hwd, hbb]
      simp only [ba_append, ba_size]
      rw [if_pos (by simp), if_pos (by simp only [List.length_append, List.length_singleton]; omega)]
    have hplain : printV k n m tl = wordsL.getD k [] → ∃ σ1, (some (AVal.str (wd k), σ) : Option (AVal × Heap)) = some (.str (ba (printV k n m tl)), σ1) ∧ ∀ b, b < σ.length → σ1[b]? = σ[b]? := fun hf => ⟨σ, by rw [hf]; rfl, fun _ _ => rfl⟩
    clear hp he hwd hw6
    match k, h18, hnum, hpair, htext, hbind, hunbind, hplain with
    | 0, _, _, _, _, _, _, h => exact h rfl
    | 1, _, _, _, _, _, _, h => exact h rfl
    | 2, _, _, _, _, _, _, h => exact h rfl
    | 3, _, h, _, _, _, _, _ => exact h rfl
    | 4, _, _, _, h, _, _, _ => exact h rfl
    | 5, _, h, _, _, _, _, _ => exact h rfl
    | 6, _, _, _, h, _, _, _ => exact h rfl
    | 7, _, _, h, _, _, _, _ => exact h rfl
    | 8, _, _, _, _, _, _, h => exact h rfl
    | 9, _, _, _, _, _, _, h => exact h rfl
    | 10, _, _, _, _, _, _, h => exact h rfl
    | 11, _, _, _, _, _, _, h => exact h rfl
    | 12, _, _, _, _, _, _, h => exact h rfl
    | 13, _, _, h, _, _, _, _ => exact h rfl
    | 14, _, h, _, _, _, _, _ => exact h rfl
    | 15, _, _, _, _, _, _, h => exact h rfl
    | 16, _, _, _, _, h, _, _ => exact h rfl
    | 17, _, _, _, _, _, h, _ => exact h rfl
    | k + 18, hk, _, _, _, _, _, _ => omega
  obtain ⟨σ1, h1, h2⟩ := key
  rw [ba_data]
  exact call_gc0 (call_ok ok (K_command_Print c_command_Print ok_strconv_Itoa) h1) h2 trivial
end Go.Abs.TD
namespace Go.Abs.TD
open Go Go.Abs Go.Proofs Go.RowKit

/-- A command that is printed as this text. -/
structure Good (c : Cmd) (s : List UInt8) (k : Nat) : Prop where
  kind : c.Kind = (k : Int)
  k18 : k < 18
  n : I64 c.N
  m : I64 c.M
  t : c.Text.size ≤ s.length
  same : printV k c.N c.M c.Text.data.toList = s
theorem I64_nat {u : Nat} (h : u < 9223372036854775808) : I64 (u : Int) := ⟨by omega, by omega⟩
theorem I64_zero : I64 0 := ⟨by omega, by omega⟩
theorem I64_u8 (c : UInt8) : I64 ((c.toNat : Nat) : Int) := I64_nat (by have := u8_lt c; omega)
theorem byteV_u8 (c : UInt8) : byteV ((c.toNat : Nat) : Int) = c := by
  have := u8_lt c
  unfold byteV
  rw [show IntKind.u8.wrap ((c.toNat : Nat) : Int) = ((c.toNat : Nat) : Int) by rw [IntKind.wrap_u8]; omega, Int.toNat_natCast]
  exact UInt8.toNat_inj.1 (by simp)
theorem num_ok {l : List UInt8} (h : (numV l).2 = true) : ∃ u : Nat, u < 9223372036854775808 ∧ l = Lib.decDigits u ∧ (numV l).1 = (u : Int) := by
  unfold numV at h ⊢
  cases hn : numD l with
  | none => rw [hn] at h; cases h
  | some u => exact ⟨u, (numD_some hn).2, (numD_some hn).1, rfl⟩
theorem good_fill (pv : List UInt8 → Cmd × Int) (k : Nat) (h18 : k < 18) (r : List UInt8) (h : (fillV pv k r true).1 = 0) : Good (fillV pv k r true).2 (wordsL.getD k [] ++ 32 :: r) k := by
  unfold fillV at h ⊢
  by_cases h1 : k = 3 ∨ k = 5 ∨ k = 14
  · rw [if_pos h1] at h ⊢
    have hn : (numV r).2 = true := by
      cases hx : (numV r).2 with
      | true => rfl
      | false => rw [hx] at h; cases h
    obtain ⟨u, hu, hr, he⟩ := num_ok hn
    refine ⟨rfl, h18, by simp only; rw [he]; exact I64_nat hu, I64_zero, by simp [ba_size], ?_⟩
    simp only
    unfold printV
    rw [if_pos h1, he, Lib.itoa_nonneg, ← hr]
    simp
  · rw [if_neg h1] at h ⊢
    by_cases h2 : k = 7 ∨ k = 13
    · rw [if_pos h2] at h ⊢
      have hn : (pairV r).2.2 = true := by
        cases hx : (pairV r).2.2 with
        | true => rfl
        | false => rw [hx] at h; cases h
      unfold pairV at hn
      simp only [Bool.and_eq_true] at hn
      obtain ⟨u, hu, hr, he⟩ := num_ok hn.2.1
      obtain ⟨v, hv, hr2, he2⟩ := num_ok hn.2.2
      have hc := cutB_more 47 r hn.1
      have e1 : (pairV r).1 = (u : Int) := he
      have e2 : (pairV r).2.1 = (v : Int) := he2
      refine ⟨rfl, h18, by simp only; rw [e1]; exact I64_nat hu, by simp only; rw [e2]; exact I64_nat hv, by simp [ba_size], ?_⟩
      simp only
      unfold printV
      rw [if_neg h1, if_pos h2, e1, e2, Lib.itoa_nonneg, Lib.itoa_nonneg, ← hr, ← hr2]
      conv => rhs; rw [hc]
      simp
    · rw [if_neg h2] at h ⊢
      by_cases h3 : k = 4 ∨ k = 6
      · rw [if_pos h3] at h ⊢
        by_cases h40 : 40 < r.length
        · rw [if_pos h40] at h; cases h
        · rw [if_neg h40] at h ⊢
          refine ⟨rfl, h18, I64_zero, I64_zero, by simp [ba_size]; omega, ?_⟩
          simp only [ba_data]
          unfold printV
          rw [if_neg h1, if_neg h2, if_pos h3]
          simp
      · rw [if_neg h3] at h ⊢
        by_cases h4 : k = 16
        · rw [if_pos h4] at h ⊢
          unfold boundV at h ⊢
          by_cases b1 : keyV (cutB 32 r).1 = false
          · rw [if_pos b1] at h; cases h
          · rw [if_neg b1] at h ⊢
            by_cases b2 : (cutB 32 r).2.2 = false
            · rw [if_pos b2] at h; cases h
            · rw [if_neg b2] at h ⊢
              by_cases b3 : 40 < (cutB 32 r).2.1.length
              · rw [if_pos b3] at h; cases h
              · rw [if_neg b3] at h ⊢
                by_cases b4 : (pv (cutB 32 r).2.1).2 ≠ 0
                · rw [if_pos b4] at h; cases h
                · rw [if_neg b4] at h ⊢
                  by_cases b5 : 16 ≤ (pv (cutB 32 r).2.1).1.Kind
                  · rw [if_pos b5] at h; cases h
                  · rw [if_neg b5] at h ⊢
                    have hc := cutB_more 32 r (by simpa using b2)
                    have hl := cutB_len 32 r
                    obtain ⟨c, hk⟩ := key_one (by simpa using b1)
                    refine ⟨rfl, h18, I64_u8 _, I64_zero, by simp only [ba_size, List.length_append, List.length_cons]; omega, ?_⟩
                    simp only [ba_data]
                    unfold printV
                    rw [if_neg h1, if_neg h2, if_neg h3, if_pos h4, byteV_u8, hk, List.getD_cons_zero]
                    conv => rhs; rw [hc, hk]
                    simp
        · rw [if_neg h4] at h ⊢
          by_cases h5 : k = 17
          · rw [if_pos h5] at h ⊢
            by_cases hk : keyV r = true
            · rw [if_pos hk] at h ⊢
              obtain ⟨c, rfl⟩ := key_one hk
              refine ⟨rfl, h18, I64_u8 _, I64_zero, by simp [ba_size], ?_⟩
              simp only
              unfold printV
              rw [if_neg h1, if_neg h2, if_neg h3, if_neg h4, if_pos h5, byteV_u8]
              simp
            · rw [if_neg hk] at h; cases h
          · rw [if_neg h5] at h; cases h
theorem good_none (k : Nat) (hk : k < 18) (hn : noarg k = true) : Good (zc k) (wordsL.getD k []) k := by
  refine ⟨rfl, hk, I64_zero, I64_zero, by simp [zc, ba_size], ?_⟩
  match k, hk, hn with
  | 0, _, _ | 1, _, _ | 2, _, _ | 8, _, _ | 9, _, _ | 10, _, _ | 11, _, _ | 12, _, _ | 15, _, _ => rfl
  | 3, _, h | 5, _, h | 14, _, h | 7, _, h | 13, _, h | 4, _, h | 6, _, h | 16, _, h | 17, _, h => cases h
  | k + 18, h, _ => omega
theorem find_some {f : List UInt8} : ∀ (j k : Nat) {i : Nat}, k + j = 18 → findW f (wordsL.drop k) k = some i → i < 18 ∧ wordsL.getD i [] = f
  | 0, k, i, hk, h => by
    obtain rfl : k = 18 := by omega
    cases h
  | j + 1, k, i, hk, h => by
    rw [words_drop (show k < 18 by omega), findW] at h
    split at h
    · rename_i he
      injection h with h
      subst h
      exact ⟨by omega, he⟩
    · exact find_some j (k + 1) (by omega) h
theorem told_zero {q : Int × Cmd} : (told q).2 = 0 → q.1 = 0 ∧ (told q).1 = q.2 := fun h => by
  unfold told at h ⊢
  by_cases h0 : q.1 ≠ 0
  · rw [if_pos h0] at h
    exact absurd h h0
  · rw [if_neg h0] at h ⊢
    exact ⟨by simpa using h0, rfl⟩
theorem told_err {q : Int × Cmd} (h : q.1 = 0 ∨ q.1 = 1 ∨ q.1 = 2) : (told q).2 ≠ 0 → (told q).1 = zc 0 ∧ ((told q).2 = 1 ∨ (told q).2 = 2) := fun h2 => by
  unfold told at h2 ⊢
  by_cases h0 : q.1 ≠ 0
  · rw [if_pos h0] at h2 ⊢
    refine ⟨rfl, ?_⟩
    simp only
    omega
  · rw [if_neg h0] at h2
    exact absurd rfl h2
theorem errI_two (b : Bool) : errI b = 0 ∨ errI b = 1 ∨ errI b = 2 := by cases b <;> simp [errI]
theorem fill_errs (pv : List UInt8 → Cmd × Int) (k : Nat) (r : List UInt8) (more : Bool) : (fillV pv k r more).1 = 0 ∨ (fillV pv k r more).1 = 1 ∨ (fillV pv k r more).1 = 2 := by
  unfold fillV boundV
  split
  · exact errI_two _
  · split
    · exact errI_two _
    · split
      · split
        · simp
        · exact errI_two _
      · split
        · split
          · simp
          · split
            · simp
            · split
              · simp
              · split
                · simp
                · split <;> simp
        · split
          · split <;> simp
          · exact errI_two _
/-- What Parse tells: an error, or a command that is printed as the text. -/
theorem parse_good : ∀ (n : Nat) (s : List UInt8), ((parseV n s).2 ≠ 0 → (parseV n s).1 = zc 0 ∧ ((parseV n s).2 = 1 ∨ (parseV n s).2 = 2)) ∧ ((parseV n s).2 = 0 → ∃ k, Good (parseV n s).1 s k)
  | 0, s => ⟨fun _ => ⟨rfl, .inl rfl⟩, fun h => by cases h⟩
  | n + 1, s => by
    unfold parseV
    cases hf : findW (cutB 32 s).1 wordsL 0 with
    | none => exact ⟨fun _ => ⟨rfl, .inl rfl⟩, fun h => by cases h⟩
    | some k =>
      obtain ⟨h18, hw⟩ := find_some 18 0 rfl hf
      rw [ansV_told]
      refine ⟨told_err (fill_errs ..), fun h => ?_⟩
      obtain ⟨h0, he⟩ := told_zero h
      rw [he]
      cases hm : (cutB 32 s).2.2 with
      | true =>
        rw [hm] at h0
        have := good_fill (parseV n) k h18 _ h0
        rw [hw, ← cutB_more 32 s hm] at this
        exact ⟨k, this⟩
      | false =>
        have hc := cutB_none 32 s hm
        have ht := fill_none (parseV n) k h18
        rw [hm, hc.2] at h he h0 
        rw [hc.2]
        rw [ht] at h he
        by_cases hn : noarg k = true
        · rw [if_pos hn] at he
          have := good_none k h18 hn
          rw [hw, hc.1] at this
          rw [← he]
          exact ⟨k, this⟩
        · rw [if_neg hn] at h; cases h
/-! ### CommandAny -/
noncomputable def c_CommandAny : C_law21_CommandAny := { law21_fit := w_law21_fit, command_Parse := w_command_Parse 1000, command_Print := w_command_Print }
theorem law_CommandAny (s : ByteArray) {σ : Heap} (hG : GC σ) : ∃ σ1, CallOK Tryd.prog T 5 [tStr.av s] σ (tBool.av true) σ1 := by
  obtain ⟨l, rfl⟩ : ∃ l, s = ba l := ⟨_, ba_self s⟩
  refine ⟨σ, call_ok ok (K_law21_CommandAny c_CommandAny ok_law21_fit (ok_command_Parse 1000) ok_command_Print) (L := 0) (n := 2) ((law21_CommandAny_eq c_CommandAny 0 (ba l) σ _).trans ?_)⟩
  have p1 : c_CommandAny.law21_fit = w_law21_fit := rfl
  have p2 : c_CommandAny.command_Parse = w_command_Parse 1000 := rfl
  have p3 : c_CommandAny.command_Print = w_command_Print := rfl
  rw [p1, p2, p3, w_law21_fit_eq hG, Option.bind_some, ba_size]
  simp only [Bool.not_true, cond_false]
  by_cases h : 300 < l.length
  · rw [decide_eq_true (show (l.length : Int) > 300 by omega)]; rfl
  · rw [decide_eq_false (show ¬ (l.length : Int) > 300 by omega), cond_false, w_command_Parse_eq hG (by omega) (by omega), Option.bind_some]
    simp only
    obtain ⟨g1, g2⟩ := parse_good 1000 l
    by_cases h0 : (parseV 1000 l).2 = 0
    · obtain ⟨k, hk⟩ := g2 h0
      have ht := hk.t
      rw [show ((parseV 1000 l).2 != 0) = false by simpa using h0, cond_false, w_command_Print_eq ⟨hG, hk.kind, hk.k18, hk.n, hk.m, by omega⟩, Option.bind_some, hk.same]
      simp only [beq_self_eq_true]
      rfl
    · obtain ⟨hz, he⟩ := g1 h0
      rw [show ((parseV 1000 l).2 != 0) = true by simpa using h0, cond_true, hz]
      have ht : ((zc 0).Text.toList == (⟨#[]⟩ : ByteArray).toList) = true := beq_self_eq_true _
      rw [ht]
      rcases he with he | he
      · rw [he]; rfl
      · rw [he]; rfl
end Go.Abs.TD
