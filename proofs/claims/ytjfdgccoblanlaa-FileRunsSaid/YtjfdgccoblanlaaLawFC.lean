/-
The law FileCrash, on the machine.
-/
import Derived.Test.YtjfdgccoblanlaaMConJ
import Derived.Test.YtjfdgccoblanlaaEqC2
namespace Go.Abs.TC
open Go Go.Abs Go.Proofs

/-! ### A crash, file by file -/
theorem crash1_at (more : Nat) (n m : ByteArray) (fs : List Fil) : getK Fil.name m (crash1 more n fs) = if n = m then (getK Fil.name m fs).map (crashF more) else getK Fil.name m fs := by
  unfold crash1
  cases hg : getK Fil.name n fs with
  | none =>
    dsimp only
    by_cases e : n = m
    · subst e; rw [if_pos rfl, hg]; rfl
    · rw [if_neg e]
  | some g =>
    dsimp only
    rw [getK_put]
    have hn : (crashF more g).name = n := (getK_mem hg).2
    rw [hn]
    by_cases e : n = m
    · subst e; rw [if_pos rfl, if_pos rfl, hg]; rfl
    · rw [if_neg e, if_neg e]
theorem crashGo_out (ks : List Int) {m : ByteArray} : ∀ (ns : List ByteArray) (i : Nat) (fs : List Fil), m ∉ ns → getK Fil.name m (crashGo ks ns i fs) = getK Fil.name m fs
  | [], _, _, _ => rfl
  | n :: ns, i, fs, h => by
    rw [List.mem_cons, not_or] at h
    rw [crashGo, crashGo_out ks ns (i + 1) _ h.2, crash1_at, if_neg (fun e => h.1 e.symm)]
theorem crashGo_at (ks : List Int) {m : ByteArray} : ∀ (ns : List ByteArray) (i j : Nat) (fs : List Fil), ns.Nodup → ns[j]? = some m → getK Fil.name m (crashGo ks ns i fs) = (getK Fil.name m fs).map (crashF (keepAt ks (i + j)))
  | [], _, _, _, _, h => by simp at h
  | n :: ns, i, 0, fs, hn, h => by
    simp only [List.getElem?_cons_zero] at h
    injection h with h
    subst h
    rw [List.nodup_cons] at hn
    rw [crashGo, crashGo_out ks ns (i + 1) _ hn.1, crash1_at, if_pos rfl]
    rfl
  | n :: ns, i, j + 1, fs, hn, h => by
    rw [List.getElem?_cons_succ] at h
    rw [List.nodup_cons] at hn
    have hne : n ≠ m := fun e => hn.1 (e ▸ List.mem_of_getElem? h)
    rw [crashGo, crashGo_at ks ns (i + 1) j _ hn.2 h, crash1_at, if_neg hne, show i + 1 + j = i + (j + 1) by omega]
theorem sortN_perm (l : List ByteArray) : (sortN l).Perm l := by
  unfold sortN
  have h := (List.mergeSort_perm (l.map bl) leB).map lb
  rw [List.map_map, show lb ∘ bl = id from funext lb_bl, List.map_id] at h
  exact h
theorem put_names {x f : Fil} : ∀ {fs : List Fil}, getK Fil.name x.name fs = some f → (putK Fil.name x fs).map Fil.name = fs.map Fil.name
  | [], h => by cases h
  | g :: r, h => by
    simp only [getK] at h
    simp only [putK]
    split at h
    · rename_i e
      rw [if_pos e, List.map_cons, List.map_cons, e]
    · rename_i e
      rw [if_neg e, List.map_cons, List.map_cons, put_names h]
theorem crash1_names (more : Nat) (n : ByteArray) (fs : List Fil) : (crash1 more n fs).map Fil.name = fs.map Fil.name := by
  unfold crash1
  cases hg : getK Fil.name n fs with
  | none => rfl
  | some f =>
    have hg' : getK Fil.name (crashF more f).name fs = some f := by rw [show (crashF more f).name = n from (getK_mem hg).2]; exact hg
    exact put_names hg'
theorem crashGo_names (ks : List Int) : ∀ (ns : List ByteArray) (i : Nat) (fs : List Fil), (crashGo ks ns i fs).map Fil.name = fs.map Fil.name
  | [], _, _ => rfl
  | n :: ns, i, fs => by rw [crashGo, crashGo_names ks ns, crash1_names]
theorem put_self {f : Fil} : ∀ {fs : List Fil}, getK Fil.name f.name fs = some f → putK Fil.name f fs = fs
  | [], h => by cases h
  | g :: r, h => by
    simp only [getK] at h
    simp only [putK]
    split at h
    · rename_i e
      injection h with h
      rw [if_pos e, h]
    · rename_i e
      rw [if_neg e, put_self h]
theorem crashF_sure {more : Nat} {f : Fil} (h : f.sure = f.data.length) : crashF more f = f := by
  have e : crashN more f = f.data.length := by unfold crashN; rw [h]; omega
  unfold crashF
  rw [e, List.take_length]
  cases f
  simp only at h
  rw [h]
theorem crashGo_self (ks : List Int) : ∀ (ns : List ByteArray) (i : Nat) (fs : List Fil), (∀ f ∈ fs, f.sure = f.data.length) → crashGo ks ns i fs = fs
  | [], _, _, _ => rfl
  | n :: ns, i, fs, h => by
    have e : crash1 (keepAt ks i) n fs = fs := by
      unfold crash1
      cases hg : getK Fil.name n fs with
      | none => rfl
      | some f =>
        dsimp only
        have hm := getK_mem hg
        rw [crashF_sure (h f hm.1)]
        refine put_self ?_
        rw [hm.2]
        exact hg
    rw [crashGo, e, crashGo_self ks ns (i + 1) fs h]
theorem getK_of_mem {f : Fil} : ∀ {fs : List Fil}, (fs.map Fil.name).Nodup → f ∈ fs → getK Fil.name f.name fs = some f
  | g :: r, hn, h => by
    rw [List.map_cons, List.nodup_cons] at hn
    simp only [getK]
    rcases List.mem_cons.1 h with rfl | h
    · rw [if_pos rfl]
    · rw [if_neg, getK_of_mem hn.2 h]
      exact fun e => hn.1 (e ▸ List.mem_map_of_mem h)
/-- A good store: no name twice; no more is sure than there is. -/
structure Sto.Good (t : Sto) : Prop where
  names : (t.fs.map Fil.name).Nodup
  sure : ∀ f ∈ t.fs, f.sure ≤ f.data.length
theorem St.good {σ : Heap} {m : Mode} {d : SD} (h : St σ m d) : d.sto.Good := by
  refine ⟨?_, fun f hf => ?_⟩
  · show ((d.fs.map FD.fil).map Fil.name).Nodup
    rw [List.map_map]
    exact h.names
  · obtain ⟨g, hg, rfl⟩ := List.mem_map.1 hf
    exact (h.file g hg).sure
theorem names_nodup {t : Sto} (h : t.Good) : t.names.Nodup := (sortN_perm _).nodup_iff.2 h.names
theorem crash_at {t : Sto} (h : t.Good) {ks : List Int} {j : Nat} {m : ByteArray} (hj : t.names[j]? = some m) : ∃ f, t.get m = some f ∧ f.sure ≤ f.data.length ∧ (t.crash ks).get m = some (crashF (keepAt ks j) f) := by
  have hm : m ∈ t.fs.map Fil.name := mem_sortN.1 (List.mem_of_getElem? hj)
  obtain ⟨f, hf, rfl⟩ := List.mem_map.1 hm
  have hg := getK_of_mem h.names hf
  refine ⟨f, hg, h.sure f hf, ?_⟩
  have := crashGo_at ks t.names 0 j t.fs (names_nodup h) hj
  rw [Nat.zero_add, hg] at this
  exact this
theorem crash_all_sure {t : Sto} (h : t.Good) (ks : List Int) : ∀ f ∈ (t.crash ks).fs, f.sure = f.data.length := fun f hf => by
  have hn : (t.crash ks).fs.map Fil.name = t.fs.map Fil.name := crashGo_names ks _ _ _
  have hg := getK_of_mem (by rw [hn]; exact h.names) hf
  have hm : f.name ∈ t.names := mem_sortN.2 (by rw [← hn]; exact List.mem_map_of_mem hf)
  obtain ⟨j, hj⟩ := List.mem_iff_getElem?.1 hm
  obtain ⟨f0, g1, g2, g3⟩ := crash_at h (ks := ks) hj
  have e : some f = some (crashF (keepAt ks j) f0) := hg.symm.trans g3
  injection e with e
  subst e
  show crashN _ f0 = (f0.data.take (crashN _ f0)).length
  rw [List.length_take]
  unfold crashN
  omega
theorem crash_twice {t : Sto} (h : t.Good) (ks : List Int) : ((t.crash ks).crash ks).used = (t.crash ks).used ∧ ((t.crash ks).crash ks).fs.length = t.fs.length := by
  have e : crashGo ks (t.crash ks).names 0 (t.crash ks).fs = (t.crash ks).fs := crashGo_self ks _ _ _ (crash_all_sure h ks)
  refine ⟨?_, ?_⟩
  · rw [Sto.used_eq, Sto.used_eq]
    exact congrArg usedL e
  · exact (congrArg List.length e).trans (crashGo_size ks t.names 0 t.fs).2
theorem names_len (t : Sto) : t.names.length = t.fs.length := (sortN_perm _).length_eq.trans (by rw [List.length_map])
def dataAt (t : Sto) (n : ByteArray) : ByteArray := ⟨(readS t n).2.toArray⟩
def sureAt (t : Sto) (n : ByteArray) : Int := match t.get n with | some f => (f.sure : Int) | none => 0
theorem ba_take (xs : List UInt8) (n : Nat) : (((⟨xs.toArray⟩ : ByteArray).extract 0 n).toList == (⟨(xs.take n).toArray⟩ : ByteArray).toList) = true := by
  rw [ba_beq, decide_eq_true_eq]
  apply ByteArray.ext
  simp
theorem sureV_sto (d : SD) (n : ByteArray) : sureV d n = sureAt d.sto n := by
  unfold sureV sureAt
  rw [d.get_sto]
  cases d.get n <;> rfl

/-! ### The walk -/
noncomputable def c_law04_FileCrash : C_law04_FileCrash := { law04_fit := w_law04_fit, law04_short := w_law04_short, file_New := w_file_New, law04_do := w_law04_do, file_Store_Crash := w_file_Store_Crash, file_Store_Read := w_file_Store_Read, law04_Call_kind := w_law04_Call_kind, file_Store_Used := w_file_Store_Used, file_Store_Sure := w_file_Store_Sure, file_Store_Names := w_file_Store_Names }
theorem keepAt_lt {ks : List Int} {j : Nat} {x : Int} (h : ks[j]? = some x) : (if 0 > x then 0 else x) = (keepAt ks j : Int) := by
  unfold keepAt
  rw [List.getD_eq_getElem?_getD, h, Option.getD_some]
  split <;> omega
theorem keepAt_ge {ks : List Int} {j : Nat} (h : ¬ j < ks.length) : (keepAt ks j : Int) = 0 := by
  unfold keepAt
  rw [List.getD_eq_getElem?_getD, List.getElem?_eq_none (by omega)]
  rfl
theorem crash_check {L s : Nat} {keep names was sure : Sl} {σ0 : Heap} {ks : List Int} {t : Sto} (hg : t.Good) (hd : t.down = false) (hK : keep.Is eI64 σ0 ks) (hKr : Ro σ0 keep) (hsz : t.size ≤ 20000) :
    ∀ (k j m : Nat) (σ : Heap) (d : SD), j + k = t.names.length → k < m → Run σ0 σ d 20000 → d.s = s → d.sto = t.crash ks →
      names.Is eStr σ t.names → was.Is eStr σ (t.names.map (dataAt t)) → sure.Is eI64 σ (t.names.map (sureAt t)) →
      ∃ σ', law04_FileCrash_L23 (R := AVal × Heap) c_law04_FileCrash L m keep (some (s, 0)) names was sure (j : Int) σ (fun v σ => some (v, σ)) = some (.bool true, σ')
  | k, j, 0, σ, d, _, h, _, _, _, _, _, _ => by omega
  | 0, j, m + 1, σ, d, hj, _, hR, hs, hdt, hN, hW, hS => by
    have p4 : c_law04_FileCrash.file_Store_Used = w_file_Store_Used := rfl
    have p5 : c_law04_FileCrash.file_Store_Crash = w_file_Store_Crash := rfl
    have p6 : c_law04_FileCrash.file_Store_Names = w_file_Store_Names := rfl
    have u1 := hR.used
    obtain ⟨σ1, d1, a1, a2, a3, a4, _⟩ := hR.crash hK hKr
    have u2 := a2.used
    have n1 := w_file_Store_Names_eq (m := .rw) trivial a2.st
    obtain ⟨e1, e2⟩ := crash_twice hg ks
    rw [a3, hdt, e1] at u2
    rw [hdt] at u1
    rw [a4] at u2 n1
    rw [hs] at a1 u1 u2 n1
    rw [law04_FileCrash_L23_eq, p4, p5, p6, hN.n, lt_false (by omega), cond_false, u1, Option.bind_some]
    dsimp only
    rw [a1, Option.bind_some]
    dsimp only
    rw [u2, Option.bind_some]
    dsimp only
    rw [beq_self_eq_true, cond_true, n1, Option.bind_some]
    have hl : d1.fs.length = t.fs.length := by
      have := congrArg (fun t => t.fs.length) a3
      simp only [SD.sto, List.length_map] at this
      rw [this, ← e2, ← hdt]
      rfl
    have hnl : (namesD d1).length = d1.fs.length := by simp [namesD, sortN]
    have hfn := fresh_n eStr σ1 d1.fs.isEmpty (namesD d1) (fun he => List.eq_nil_of_length_eq_zero (by rw [hnl]; simpa using he))
    rw [hfn, hnl, hl, names_len, beq_self_eq_true]
    exact ⟨_, rfl⟩
  | k + 1, j, m + 1, σ, d, hj, hm, hR, hs, hdt, hN, hW, hS => by
    have hjl : j < t.names.length := by omega
    have hmj := List.getElem?_eq_getElem hjl
    generalize t.names[j] = x at hmj
    obtain ⟨f, g1, g2, g3⟩ := crash_at hg (ks := ks) hmj
    have p4 : c_law04_FileCrash.file_Store_Read = w_file_Store_Read := rfl
    have p5 : c_law04_FileCrash.file_Store_Sure = w_file_Store_Sure := rfl
    obtain ⟨b1, n1, n2⟩ := str_cell hN hmj
    obtain ⟨sl, σ1, r1, r2, r3, r4, _⟩ := hR.read x
    have hread : readS d.sto x = (0, (crashF (keepAt ks j) f).data) := by
      rw [hdt]
      unfold readS
      rw [g3]
      rfl
    rw [hread, hs] at r1
    rw [hread] at r2
    dsimp only at r1 r2
    have cN1 : f.sure ≤ crashN (keepAt ks j) f := by unfold crashN; omega
    have cN2 : crashN (keepAt ks j) f ≤ f.data.length := by unfold crashN; omega
    have cN3 : crashN (keepAt ks j) f ≤ f.sure + keepAt ks j := by unfold crashN; omega
    have cN4 : crashN (keepAt ks j) f < f.data.length → crashN (keepAt ks j) f = f.sure + keepAt ks j := by unfold crashN; omega
    have hsn := r2.n
    have hlen : (crashF (keepAt ks j) f).data.length = crashN (keepAt ks j) f := by
      show (f.data.take _).length = _
      rw [List.length_take]; omega
    rw [hlen] at hsn
    have hfl : f.data.length ≤ 20000 := by
      have h1 : f.data.length ≤ usedL t.fs := by
        have : ∀ {fs : List Fil}, f ∈ fs → f.data.length ≤ usedL fs := fun {fs} h => by
          induction fs with
          | nil => cases h
          | cons g r ih =>
            rw [usedL_cons]
            rcases List.mem_cons.1 h with rfl | h
            · omega
            · have := ih h; omega
        exact this (getK_mem g1).1
      unfold Sto.size at hsz
      omega
    have hN1 := hN.pre r4
    have hW1 := hW.pre r4
    have hS1 := hS.pre r4
    have hws : (t.names.map (dataAt t))[j]? = some ⟨f.data.toArray⟩ := by
      rw [List.getElem?_map, hmj]
      simp only [Option.map_some, dataAt, readS, hd, g1, Bool.false_eq_true, if_false]
    have hss : (t.names.map (sureAt t))[j]? = some (f.sure : Int) := by
      rw [List.getElem?_map, hmj]
      simp only [Option.map_some, sureAt, g1]
    obtain ⟨b2, w1, w2⟩ := str_cell hW1 hws
    obtain ⟨b3, s1, s2⟩ := i64_cell hS1 hss
    have hwn := hW1.n
    have hsnn := hS1.n
    rw [List.length_map] at hwn hsnn
    have hsz2 : (⟨f.data.toArray⟩ : ByteArray).size = f.data.length := by simp [ByteArray.size]
    have hsure : w_file_Store_Sure (some (d.s, 0)) x σ1.frz = some (sureV d x, σ1.frz) := rdRel_eq (m := .ro) (f := fun d => sureV d x) trivial r3.st.frz
    have hsv : sureV d x = (crashN (keepAt ks j) f : Int) := by
      rw [sureV_sto, hdt]
      unfold sureAt
      rw [g3]
      rfl
    rw [hsv, hs] at hsure
    have hK1 := is_keep hK hKr r3.ro
    obtain ⟨σE, z⟩ := crash_check (L := L) hg hd hK hKr hsz k (j + 1) m σ1 d (by omega) (by omega) r3 hs hdt hN1 hW1 hS1
    have hjs : j ≤ 20000 := by
      have := names_len t
      unfold Sto.size at hsz
      omega
    have hw := wrap_i64_succ j (by omega)
    have hwr : IntKind.i64.wrap ((crashN (keepAt ks j) f : Int) - (f.sure : Int)) = (crashN (keepAt ks j) f : Int) - (f.sure : Int) := wrap_i64_of (by omega) (by omega)
    have hread' := r2.read
    have hz : eU8.z = 1 := rfl
    rw [hsn, hz] at hread'
    have rj : decide ((j : Int) < (t.names.length : Int)) = true := lt_true hjl
    rw [law04_FileCrash_L23_eq, p4, p5, hN.n, rj, cond_true, dec0, Bool.and_true, cond_true, n1, Option.bind_some, show ((j : Nat) : Int).toNat = j from rfl, n2, show str? (some (AVal.str x)) = some x from rfl, Option.bind_some, r1, Option.bind_some]
    dsimp only
    rw [bne_self_eq_false, cond_false, hsnn, hwn, rj, Bool.and_true, cond_true, s1, Option.bind_some, s2, show int? (some (AVal.int .i64 (f.sure : Int))) .i64 = some (f.sure : Int) from rfl, Option.bind_some, hsn, decide_eq_false (show ¬ (crashN (keepAt ks j) f : Int) < (f.sure : Int) by omega), cond_false,
      w1, Option.bind_some, w2, show str? (some (AVal.str (⟨f.data.toArray⟩ : ByteArray))) = some ⟨f.data.toArray⟩ from rfl, Option.bind_some, hsz2, decide_eq_false (show ¬ (crashN (keepAt ks j) f : Int) > (f.data.length : Int) by omega), cond_false]
    have hstr : str? (some (AVal.str (⟨f.data.toArray⟩ : ByteArray))) = some ⟨f.data.toArray⟩ := rfl
    have hint : int? (some (AVal.int .i64 (f.sure : Int))) .i64 = some (f.sure : Int) := rfl
    have hcd : (crashF (keepAt ks j) f).data = f.data.take (crashN (keepAt ks j) f) := rfl
    rw [hcd] at hread'
    simp only [cond_true, Option.bind_some, w2, hstr]
    rw [hsz2, dec0, decide_eq_true (show (crashN (keepAt ks j) f : Int) ≤ (f.data.length : Int) by omega), Bool.and_true, cond_true, hread', Option.bind_some, bytes_all, Option.bind_some, ba_take, Bool.not_true, cond_false, hsure, Option.bind_some]
    dsimp only
    rw [bne_self_eq_false, cond_false, Heap.back_frz]
    simp only [s2, w2, hstr, hint, Option.bind_some]
    rw [hsz2, hwr, hw]
    have hkn := hK1.n
    by_cases hkj : j < ks.length
    · obtain ⟨b4, k1, k2⟩ := i64_cell hK1 (List.getElem?_eq_getElem hkj)
      rw [hkn, lt_true hkj, cond_true, Bool.and_true, cond_true, k1, Option.bind_some, k2, show int? (some (AVal.int .i64 ks[j])) .i64 = some ks[j] from rfl, Option.bind_some, keepAt_lt (List.getElem?_eq_getElem hkj)]
      by_cases hcl : crashN (keepAt ks j) f < f.data.length
      · have e := cN4 hcl
        rw [decide_eq_true (show (crashN (keepAt ks j) f : Int) < (f.data.length : Int) by omega), cond_true, show (crashN (keepAt ks j) f : Int) - (f.sure : Int) = (keepAt ks j : Int) by omega, bne_self_eq_false, cond_false, decide_eq_false (show ¬ (keepAt ks j : Int) > (keepAt ks j : Int) by omega), cond_false]
        exact ⟨σE, z⟩
      · rw [decide_eq_false (show ¬ (crashN (keepAt ks j) f : Int) < (f.data.length : Int) by omega), cond_false, decide_eq_false (show ¬ (crashN (keepAt ks j) f : Int) - (f.sure : Int) > (keepAt ks j : Int) by omega), cond_false]
        exact ⟨σE, z⟩
    · have hk0 := keepAt_ge hkj
      rw [hkn, lt_false hkj, cond_false]
      by_cases hcl : crashN (keepAt ks j) f < f.data.length
      · have e := cN4 hcl
        rw [decide_eq_true (show (crashN (keepAt ks j) f : Int) < (f.data.length : Int) by omega), cond_true, show (crashN (keepAt ks j) f : Int) - (f.sure : Int) = 0 by omega]
        exact ⟨σE, z⟩
      · rw [decide_eq_false (show ¬ (crashN (keepAt ks j) f : Int) < (f.data.length : Int) by omega), cond_false, decide_eq_false (show ¬ (crashN (keepAt ks j) f : Int) - (f.sure : Int) > 0 by omega), cond_false]
        exact ⟨σE, z⟩
theorem own_lt {α : Type} {E : El α} {s : Sl} {σ : Heap} {xs : List α} (h : s.Own E σ xs) {c : Nat} (hc : s.b = some c) : c < σ.length := by
  cases h with
  | nil hb _ _ _ => rw [hb] at hc; cases hc
  | row b hb _ _ hr =>
    rw [hb] at hc
    injection hc with hc
    subst hc
    exact (List.getElem?_eq_some_iff.1 hr).1
theorem own_kept {α : Type} {E : El α} {s s' : Sl} {σ σ' : Heap} {xs : List α} (h : s.Own E σ xs) (k : Kept s' σ σ') (hne : ∀ c, s.b = some c → s'.b ≠ some c) : s.Own E σ' xs := by
  cases h with
  | nil hb ho hn hx => exact .nil hb ho hn hx
  | row b hb ho hn hr => exact .row b hb ho hn (by rw [k.at_ b (List.getElem?_eq_some_iff.1 hr).1 (hne b hb)]; exact hr)
theorem crash_note {L s : Nat} {keep names : Sl} {σ0 σN : Heap} {ks : List Int} {d : SD} (hL : d.sto.names.length < L) (hd : d.sto.down = false) (hK : keep.Is eI64 σ0 ks) (hKr : Ro σ0 keep) (hR : Run σ0 σN d 20000) (hs : d.s = s) (hN : names.Is eStr σN d.sto.names) (hNo : ∀ c, names.b = some c → c ∉ d.foot) :
    ∀ (k i m : Nat) (σ : Heap) (was sure : Sl), i + k = d.sto.names.length → k < m → σN <+: σ → was.Own eStr σ ((d.sto.names.take i).map (dataAt d.sto)) → sure.Own eI64 σ ((d.sto.names.take i).map (sureAt d.sto)) →
      (∀ c, was.b = some c → σN.length ≤ c) → (∀ c, sure.b = some c → σN.length ≤ c) → (∀ c, was.b = some c → sure.b ≠ some c) →
      ∃ σ', law04_FileCrash_L16 (R := AVal × Heap) c_law04_FileCrash L m keep (some (s, 0)) names was sure names (names.n : Int) (i : Int) σ (fun v σ => some (v, σ)) = some (.bool true, σ')
  | k, i, 0, σ, was, sure, _, h, _, _, _, _, _, _ => by omega
  | 0, i, m + 1, σ, was, sure, hi, _, hp, hW, hS, hWn, hSn, _ => by
    have p5 : c_law04_FileCrash.file_Store_Crash = w_file_Store_Crash := rfl
    rw [law04_FileCrash_L16_eq, p5, hN.n, lt_false (by omega), cond_false]
    have hsz := hR.size
    have hnl := names_len d.sto
    have hnl' : d.sto.names.length ≤ 20000 := by unfold Sto.size at hsz; omega
    obtain ⟨σ1, d1, a1, a2, a3, a4, a5⟩ := (hR.pre hp).crash hK hKr
    rw [List.take_of_length_le (by omega)] at hW hS
    have out : ∀ {sl : Sl}, (∀ c, sl.b = some c → σN.length ≤ c) → ∀ c, sl.b = some c → c ∉ d.foot := fun h c hc hm => by have := h c hc; have := hR.st.foot_lt hm; omega
    obtain ⟨n1, _⟩ := is_fr (hN.pre hp) a5 hNo
    obtain ⟨w1, _⟩ := is_fr (hW.is (by rw [List.length_map]; omega)) a5 (out hWn)
    obtain ⟨s1, _⟩ := is_fr (hS.is (by rw [List.length_map]; omega)) a5 (out hSn)
    obtain ⟨σE, z⟩ := crash_check (L := L) hR.st.good hd hK hKr hsz d.sto.names.length 0 L σ1 d1 (by omega) hL a2 (a4.trans hs) a3 n1 w1 s1
    rw [hs] at a1
    rw [a1, Option.bind_some]
    exact ⟨σE, z⟩
  | k + 1, i, m + 1, σ, was, sure, hi, hm, hp, hW, hS, hWn, hSn, hWS => by
    have hsz := hR.size
    have hnl := names_len d.sto
    have hnl' : d.sto.names.length ≤ 20000 := by unfold Sto.size at hsz; omega
    have hil : i < d.sto.names.length := by omega
    have hmi := List.getElem?_eq_getElem hil
    have htk : d.sto.names.take (i + 1) = d.sto.names.take i ++ [d.sto.names[i]] := List.take_succ_eq_append_getElem hil
    generalize d.sto.names[i] = x at hmi htk
    have p4 : c_law04_FileCrash.file_Store_Read = w_file_Store_Read := rfl
    have p5 : c_law04_FileCrash.file_Store_Sure = w_file_Store_Sure := rfl
    obtain ⟨b1, n1, n2⟩ := str_cell (hN.pre hp) hmi
    obtain ⟨sl, σ1, r1, r2, r3, r4, _⟩ := (hR.pre hp).read x
    have hlt : ((d.sto.names.take i).map (dataAt d.sto)).length = i := by rw [List.length_map, List.length_take]; omega
    have hlt' : ((d.sto.names.take i).map (sureAt d.sto)).length = i := by rw [List.length_map, List.length_take]; omega
    have hW1 := hW.pre r4
    have hS1 := hS.pre r4
    obtain ⟨q, σ2, q1, q2, q3, q4⟩ := append_own (ys := [dataAt d.sto x]) hW1 (bytes := 16) (vs := [.str (dataAt d.sto x)]) (k := 1) rfl rfl (by rw [hlt]; simp; omega) (by rw [hlt]; simp; omega)
    have hp2 : σN <+: σ2 := Kept.pre (hp.trans r4) q3 hWn
    have hsure : w_file_Store_Sure (some (d.s, 0)) x σ2 = some (sureV d x, σ2) := rdRel_eq (m := .rw) (f := fun d => sureV d x) trivial (hR.st.pre hp2)
    rw [sureV_sto] at hsure
    have hS2 : sure.Own eI64 σ2 ((d.sto.names.take i).map (sureAt d.sto)) := own_kept hS1 q3 fun c hc e => hWS c e hc
    obtain ⟨v, σ3, v1, v2, v3, v4⟩ := append_own (ys := [sureAt d.sto x]) hS2 (bytes := 8) (vs := [.int .i64 (sureAt d.sto x)]) (k := 1) rfl rfl (by rw [hlt']; simp; omega) (by rw [hlt']; simp; omega)
    have hq : ∀ c, q.1 = some c → sure.b ≠ some c := fun c hc e => by
      rcases q4 c hc with h | h
      · exact hWS c h e
      · have := own_lt hS1 e; omega
    have hW3 := own_kept q2 v3 hq
    have hp3 : σN <+: σ3 := Kept.pre hp2 v3 hSn
    rw [← List.map_singleton (f := dataAt d.sto), ← List.map_append, ← htk] at hW3
    rw [← List.map_singleton (f := sureAt d.sto), ← List.map_append, ← htk] at v2
    have l1 := hp.length_le
    have l2 := r4.length_le
    have l3 := q3.len
    obtain ⟨σE, z⟩ := crash_note (L := L) hL hd hK hKr hR hs hN hNo k (i + 1) m σ3 ⟨q.1, q.2.1, q.2.2⟩ ⟨v.1, v.2.1, v.2.2⟩ (by omega) (by omega) hp3 hW3 v2
      (fun c hc => by
        rcases q4 c hc with h | h
        · exact hWn c h
        · omega)
      (fun c hc => by
        rcases v4 c hc with h | h
        · exact hSn c h
        · omega)
      (fun c hc e => by
        have hcl := own_lt q2 hc
        rcases v4 c e with h | h
        · exact hq c hc h
        · omega)
    have hread := r2.read
    have hz : eU8.z = 1 := rfl
    have hz1 : eStr.z = 1 := rfl
    have hz2 : eI64.z = 1 := rfl
    rw [hz] at hread
    rw [hz1] at q1
    rw [hz2] at v1
    rw [hs] at r1 hsure
    have hni : (names.n : Int) = (d.sto.names.length : Int) := by rw [hN.n]
    rw [law04_FileCrash_L16_eq, p4, p5, hni, lt_true hil, cond_true, dec0, Bool.and_true, cond_true, n1, Option.bind_some, show ((i : Nat) : Int).toNat = i from rfl, n2, show str? (some (AVal.str x)) = some x from rfl, Option.bind_some, r1, Option.bind_some]
    dsimp only
    rw [hread, Option.bind_some, bytes_all, Option.bind_some, show (⟨(readS d.sto x).2.toArray⟩ : ByteArray) = dataAt d.sto x from rfl, q1, Option.bind_some]
    dsimp only
    rw [hsure, Option.bind_some]
    dsimp only
    rw [v1, Option.bind_some, wrap_i64_succ i (by omega), ← hni]
    exact ⟨σE, z⟩
/-- No call of a fuse: the store stands. -/
def Stands (t : Sto) : Prop := t.down = false ∧ t.armed = false
theorem doC_stands {t : Sto} {p : PCall} (h : Stands t) (hk : kindI p.Kind ≠ 6) : Stands (t.doC p).2 := by
  obtain ⟨h1, h2⟩ := h
  by_cases h6 : kindI p.Kind < 6
  · cases doC_done t p h6 with
    | down hd hr => rw [hr]; exact ⟨h1, h2⟩
    | no hd c h0 h8 hr => rw [hr]; exact ⟨h1, h2⟩
    | falls hd ha hl hr => rw [h2] at ha; cases ha
    | yes hd ha t' hr hd' hq ha' hl' hs => rw [hr]; exact ⟨hd', ha'.trans h2⟩
  · obtain ⟨m, h7, hm⟩ := kindI_lt p.Kind
    unfold Sto.doC
    rw [if_neg (by omega), if_neg (by omega), if_neg (by omega), if_neg (by omega), if_neg (by omega), if_pos (by omega)]
    exact ⟨rfl, rfl⟩
theorem crash_calls {L s : Nat} {keep calls : Sl} {σ0 : Heap} {ks : List Int} {cs : List law04_Call} {ps : List PCall} (hC : CallsIs σ0 calls cs ps) (hK : keep.Is eI64 σ0 ks) (hKr : Ro σ0 keep) (hL : 20000 < L) :
    ∀ (k i m : Nat) (σ : Heap) (d : SD), i + k = cs.length → k < m → Run σ0 σ d (101 * i) → d.s = s → Stands d.sto →
      ∃ σ', law04_FileCrash_L7 (R := AVal × Heap) c_law04_FileCrash L m keep (some (s, 0)) calls (i : Int) σ (fun v σ => some (v, σ)) = some (.bool true, σ')
  | k, i, 0, σ, d, _, h, _, _, _ => by omega
  | 0, i, m + 1, σ, d, hi, _, hR, hs, hT => by
    have hl := hC.few
    have p6 : c_law04_FileCrash.file_Store_Names = w_file_Store_Names := rfl
    have n1 := w_file_Store_Names_eq (m := .rw) trivial hR.st
    have hsz := hR.size
    have hnl := names_len d.sto
    have hnl' : d.sto.names.length ≤ 20000 := by unfold Sto.size at hsz; omega
    have hnd := d.names_sto
    have hfl : (namesD d).length = d.fs.length := by simp [namesD, sortN]
    have he : d.fs.isEmpty = true → namesD d = [] := fun he => List.eq_nil_of_length_eq_zero (by rw [hfl]; simpa using he)
    have A := fresh_own eStr σ d.fs.isEmpty (namesD d) he
    have AP := fresh_pre eStr σ d.fs.isEmpty (namesD d)
    have AN := fresh_new eStr σ d.fs.isEmpty (namesD d)
    rw [hs] at n1
    rw [law04_FileCrash_L7_eq, p6, hC.is.n, lt_false (by omega), cond_false, n1, Option.bind_some]
    rw [← hnd] at A AP AN ⊢
    generalize fresh eStr σ d.fs.isEmpty d.sto.names = q at A AP AN
    obtain ⟨σE, z⟩ := crash_note (L := L) (keep := keep) (by omega) hT.1 hK hKr ((hR.more (by omega)).pre AP) hs (A.is (by omega)) (fun c hc hm => by have := AN c hc; have := hR.st.foot_lt hm; omega) d.sto.names.length 0 L q.2 ⟨none, 0, 0⟩ ⟨none, 0, 0⟩ (by omega) (by omega) List.prefix_rfl
      (.nil rfl rfl rfl rfl) (.nil rfl rfl rfl rfl) (fun c hc => by cases hc) (fun c hc => by cases hc) (fun c hc => by cases hc)
    exact ⟨σE, z⟩
  | k + 1, i, m + 1, σ, d, hi, hm, hR, hs, hT => by
    have hil : i < cs.length := by omega
    have hl := hC.few
    obtain ⟨ck, cn, cna, cto, cb, co, cl, ys, b, e1, e2, e3, e4, e5⟩ := at_call hC hil
    obtain ⟨f0, f1, f2, f3, f4⟩ := e5 σ hR.ro
    have p4 : c_law04_FileCrash.law04_do = w_law04_do := rfl
    have p7 : c_law04_FileCrash.law04_Call_kind = w_law04_Call_kind := rfl
    rw [law04_FileCrash_L7_eq, p4, p7, hC.is.n, lt_true hil, cond_true, dec0, Bool.and_true, cond_true, e4, Option.bind_some, show ((i : Nat) : Int).toNat = i from rfl, f0, Option.bind_some, f1, Option.bind_some, f2, Option.bind_some, f3, Option.bind_some, f4, Option.bind_some]
    dsimp only
    rw [w_law04_Call_kind, Option.bind_some]
    dsimp only
    have hw := wrap_i64_succ i (by omega)
    by_cases hk : kindI ck = 6
    · rw [show (kindI ck != 6) = false by rw [hk]; rfl, cond_false, hw]
      exact crash_calls hC hK hKr hL k (i + 1) m σ d (by omega) (by omega) (hR.more (by omega)) hs hT
    · obtain ⟨σ1, d1, a1, a2, a3, a4, _⟩ := hR.do_ (by omega) e2
      rw [hs] at a1 a4
      rw [show (kindI ck != 6) = true by simpa using hk, cond_true, a1, Option.bind_some, hw]
      exact crash_calls hC hK hKr hL k (i + 1) m σ1 d1 (by omega) (by omega) (a2.more (by omega)) a4 (by rw [a3]; exact doC_stands hT hk)
theorem law_FileCrash {σ0 : Heap} {calls keep : Sl} {cs : List law04_Call} {ps : List PCall} {ks : List Int} (hA : CallsArg σ0 calls cs ps) (hX : SlArg eI64 σ0 keep ks) : ∃ σ1, CallOK Try.prog T 7 [.slice calls.b calls.o calls.n 5, .slice keep.b keep.o keep.n 1] σ0 (.bool true) σ1 := by
  have p1 : c_law04_FileCrash.law04_fit = w_law04_fit := rfl
  have p2 : c_law04_FileCrash.law04_short = w_law04_short := rfl
  have p3 : c_law04_FileCrash.file_New = w_file_New := rfl
  have hr := law04_FileCrash_eq (R := AVal × Heap) c_law04_FileCrash (cs.length + 20001) calls keep σ0 fun v σ => some (v, σ)
  have hK := K_law04_FileCrash c_law04_FileCrash ok_law04_fit ok_law04_short ok_file_New ok_law04_do ok_file_Store_Crash ok_file_Store_Read ok_law04_Call_kind ok_file_Store_Used ok_file_Store_Sure ok_file_Store_Names
  rw [p1, w_law04_fit, Option.bind_some, p2, p3] at hr
  simp only [Bool.not_true, cond_false] at hr
  rcases w_law04_short_eq hA with h | ⟨h, hC, _⟩
  · rw [h, Option.bind_some] at hr
    exact ⟨σ0, call_ok ok hK hr⟩
  rw [h, Option.bind_some] at hr
  dsimp only at hr
  rw [show (!true) = false from rfl, cond_false] at hr
  by_cases hd : keep.n > 100
  · rw [decide_eq_true (show (keep.n : Int) > 100 by omega), cond_true] at hr
    exact ⟨σ0, call_ok ok hK hr⟩
  rw [decide_eq_false (show ¬ (keep.n : Int) > 100 by omega), cond_false] at hr
  have hn := hX.n
  obtain ⟨σ1, d, a1, a2, a3, _⟩ := Run.new 1048576 (by decide) σ0
  obtain ⟨σ3, r1⟩ := crash_calls (L := cs.length + 20001) hC (hX.is (by omega)) hX.ro (by omega) cs.length 0 (cs.length + 20001) σ1 d (by omega) (by omega) (a2.more (by omega)) rfl (by rw [a3]; exact ⟨rfl, rfl⟩)
  rw [a1, Option.bind_some] at hr
  exact ⟨σ3, call_ok ok hK (hr.trans r1)⟩
end Go.Abs.TC
