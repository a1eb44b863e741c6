/-
The law ShelfSweeps, on the machine.
-/
import Derived.Test.YtjfdgccoblanlaaMConL
import Derived.Test.YtjfdgccoblanlaaEqC3
namespace Go.Abs.TC
open Go Go.Abs Go.Proofs

def e19 : El law19_One := ⟨3, law19_One.cells, fun _ => rfl, fun a b h => by
  cases a; cases b
  simp [law19_One.cells] at h
  obtain ⟨h1, h2, h3⟩ := h
  rw [h1, h2, h3]⟩
theorem own19_lt {α : Type} {E : El α} {s : Sl} {σ : Heap} {xs : List α} (h : s.Own E σ xs) {c : Nat} (hc : s.b = some c) : c < σ.length := by
  cases h with
  | nil hb _ _ _ => rw [hb] at hc; cases hc
  | row b hb _ _ hr =>
    rw [hb] at hc
    injection hc with hc
    subst hc
    exact (List.getElem?_eq_some_iff.1 hr).1
/-- No fuse: the store stands. -/
def StandsS (t : Sto) : Prop := t.down = false ∧ t.armed = false
theorem doS_stands {t : Sto} {p : PCall} (h : StandsS t) : StandsS (t.doS p) := by
  unfold Sto.doS
  split
  · rename_i h6
    obtain ⟨h1, h2⟩ := h
    cases doC_done t p h6 with
    | down hd hr => rw [hr]; exact ⟨h1, h2⟩
    | no hd c h0 h8 hr => rw [hr]; exact ⟨h1, h2⟩
    | falls hd ha hl hr => rw [h2] at ha; cases ha
    | yes hd ha t' hr hd' hq ha' hl' hs => rw [hr]; exact ⟨hd', ha'.trans h2⟩
  · exact h
/-- A sweep of a store that stands. -/
theorem sweep_stands {t : Sto} (h : StandsS t) : t.sweep = (0, { t with fs := delK Fil.name tilde t.fs }) ∨ (t.get tilde = none ∧ t.sweep = (0, t)) := by
  obtain ⟨h1, h2⟩ := h
  have hc : t.change = (0, t) := by unfold Sto.change; rw [if_neg (by rw [h2]; simp), if_neg (by rw [h2]; simp)]
  unfold Sto.sweep Sto.delete
  cases hg : t.get tilde with
  | none => exact .inr ⟨rfl, by rw [onFile_none h1 hg]; rfl⟩
  | some f => exact .inl (by rw [onFile_yes h1 hg (by rw [hc]), hc]; rfl)
theorem sweep_all {t : Sto} (h : StandsS t) (hn : (t.fs.map Fil.name).Nodup) : ∃ t', t.sweep = (0, t') ∧ StandsS t' ∧ t'.get tilde = none ∧ (∀ m, m ≠ tilde → t'.get m = t.get m) ∧ (t'.fs.map Fil.name).Nodup ∧ (t'.fs.map Fil.name).Perm (noTilde (t.fs.map Fil.name)) := by
  rcases sweep_stands h with e | ⟨hg, e⟩
  · refine ⟨_, e, h, ?_, fun m hm => get_del hn hm, ((delK_sub t.fs).map _).nodup hn, ?_⟩
    · show getK Fil.name tilde (delK Fil.name tilde t.fs) = none
      rw [getK_del hn, if_pos rfl]
    · have key : ∀ fs : List Fil, (fs.map Fil.name).Nodup → (delK Fil.name tilde fs).map Fil.name = noTilde (fs.map Fil.name) := fun fs => by
        induction fs with
        | nil => intro _; rfl
        | cons f r ih =>
          intro hn
          rw [List.map_cons, List.nodup_cons] at hn
          simp only [delK]
          by_cases ef : f.name = tilde
          · rw [if_pos ef, List.map_cons]
            unfold noTilde
            rw [List.filter_cons, if_neg (by simp [ef])]
            refine (List.filter_eq_self.2 fun x hx => ?_).symm
            have : x ≠ tilde := fun h => hn.1 (by rw [ef, ← h]; exact hx)
            simp [this]
          · rw [if_neg ef, List.map_cons, List.map_cons, ih hn.2]
            unfold noTilde
            rw [List.filter_cons, if_pos (by simp [ef])]
      show ((delK Fil.name tilde t.fs).map Fil.name).Perm _
      rw [key t.fs hn]
  · refine ⟨t, e, h, hg, fun _ _ => rfl, hn, ?_⟩
    have : noTilde (t.fs.map Fil.name) = t.fs.map Fil.name := List.filter_eq_self.2 fun x hx => by
      obtain ⟨f, hf, rfl⟩ := List.mem_map.1 hx
      have := getK_none.1 hg f hf
      simp [this]
    rw [this]
theorem noTilde_len {l : List ByteArray} (hn : l.Nodup) : (tilde ∈ l → l.length = (noTilde l).length + 1) ∧ (tilde ∉ l → l.length = (noTilde l).length) := by
  induction l with
  | nil => exact ⟨fun h => (by cases h), fun _ => rfl⟩
  | cons x l ih =>
    rw [List.nodup_cons] at hn
    obtain ⟨i1, i2⟩ := ih hn.2
    unfold noTilde at i1 i2 ⊢
    rw [List.filter_cons]
    by_cases hx : x = tilde
    · rw [if_neg (by simp [hx])]
      refine ⟨fun _ => ?_, fun h => absurd (by rw [hx]; exact List.mem_cons_self) h⟩
      rw [List.length_cons, i2 (by rw [← hx]; exact hn.1)]
    · rw [if_pos (by simp [hx])]
      refine ⟨fun h => ?_, fun h => ?_⟩
      · rcases List.mem_cons.1 h with h | h
        · exact absurd h.symm hx
        · rw [List.length_cons, List.length_cons, i1 h]
      · rw [List.length_cons, List.length_cons, i2 (fun h' => h (List.mem_cons_of_mem _ h'))]
noncomputable def c_law19_ShelfSweeps : C_law19_ShelfSweeps := { file_New := w_file_New, file_Store_Names := w_file_Store_Names, law19_fit := w_law19_fit, law19_Get := w_law19_Get, law19_small := w_law19_small, law19_Do := w_law19_Do, shelf_Names := w_shelf_Names, shelf_Sweep := w_shelf_Sweep }
theorem one19_cells {s : Sl} {σ : Heap} {l : List law19_One} (h : s.Is e19 σ l) {i : Nat} {x : law19_One} (hi : l[i]? = some x) : ∃ b, s.b = some b ∧ str? (σ.cell? b (s.o + i * 3)) = some x.Data ∧ int? (σ.cell? b (s.o + i * 3 + 1)) .i64 = some x.Sure ∧ bool? (σ.cell? b (s.o + i * 3 + 2)) = some x.There := by
  obtain ⟨b, h1, h2⟩ := h.cell hi
  have c0 : σ.cell? b (s.o + i * 3 + 0) = some (.str x.Data) := h2 0 (by decide)
  have c1 : σ.cell? b (s.o + i * 3 + 1) = some (.int .i64 x.Sure) := h2 1 (by decide)
  have c2 : σ.cell? b (s.o + i * 3 + 2) = some (.bool x.There) := h2 2 (by decide)
  rw [Nat.add_zero] at c0
  exact ⟨b, h1, by rw [c0]; rfl, by rw [c1]; rfl, by rw [c2]; rfl⟩
theorem sweeps_check {L s : Nat} {names was : Sl} {had : Bool} {all : Int} {σ0 : Heap} {ns : List ByteArray} {g : ByteArray → law19_One} (hend : had = (all == ((ns.length + 1 : Nat) : Int))) (hns : ns.length ≤ 100000) {d : SD} (hd : d.fs.length = ns.length) (hg : ∀ n ∈ ns, getT d.sto n = g n) :
    ∀ (k i m n : Nat) (σ : Heap), i + k = ns.length → k < m → Run σ0 σ d n → d.s = s → names.Is eStr σ ns → was.Is e19 σ (ns.map g) →
      ∃ σ', law19_ShelfSweeps_L25 (R := AVal × Heap) c_law19_ShelfSweeps L m (some (s, 0)) names was had all (i : Int) σ (fun v σ => some (v, σ)) = some (.bool true, σ')
  | k, i, 0, n, σ, _, h, _, _, _, _ => by omega
  | 0, i, m + 1, n, σ, hi, _, hR, hs, hN, hW => by
    have p1 : c_law19_ShelfSweeps.file_Store_Names = w_file_Store_Names := rfl
    have n1 := w_file_Store_Names_eq (m := .rw) trivial hR.st
    have hnl : (namesD d).length = d.fs.length := by simp [namesD, sortN]
    have hfn := fresh_n eStr σ d.fs.isEmpty (namesD d) (fun he => List.eq_nil_of_length_eq_zero (by rw [hnl]; simpa using he))
    rw [hs] at n1
    rw [law19_ShelfSweeps_L25_eq, p1, hN.n, lt_false (by omega), cond_false, n1, Option.bind_some, hfn, hnl, hd, beq_self_eq_true, cond_true, wrap_i64_succ _ (by omega), ← hend, beq_self_eq_true]
    exact ⟨_, rfl⟩
  | k + 1, i, m + 1, n, σ, hi, hm, hR, hs, hN, hW => by
    have hil : i < ns.length := by omega
    have hmi := List.getElem?_eq_getElem hil
    generalize ns[i] = x at hmi
    have p1 : c_law19_ShelfSweeps.law19_Get = w_law19_Get := rfl
    obtain ⟨b1, n1, n2⟩ := str_cell hN hmi
    have hwi : (ns.map g)[i]? = some (g x) := by rw [List.getElem?_map, hmi]; rfl
    obtain ⟨b2, w1, w2, w3, w4⟩ := one19_cells hW hwi
    have hget := hR.getz x
    rw [getS_sto, hg x (List.mem_of_getElem? hmi), hs] at hget
    have hwn := hW.n
    rw [List.length_map] at hwn
    obtain ⟨σ', r⟩ := sweeps_check (L := L) hend hns hd hg k (i + 1) m n σ (by omega) (by omega) hR hs hN hW
    refine ⟨σ', ?_⟩
    rw [law19_ShelfSweeps_L25_eq, p1, hN.n, lt_true hil, cond_true, dec0, Bool.and_true, cond_true, n1, Option.bind_some, show ((i : Nat) : Int).toNat = i from rfl, n2, show str? (some (AVal.str x)) = some x from rfl, Option.bind_some, hget, Option.bind_some]
    dsimp only
    rw [Heap.back_frz, hwn, lt_true hil, Bool.and_true, cond_true, w1, Option.bind_some, w2, Option.bind_some, w3, Option.bind_some, w4, Option.bind_some]
    rw [show (!(((g x).Data.toList == (g x).Data.toList) && (((g x).Sure == (g x).Sure) && (((g x).There == (g x).There) && true)))) = false by simp, cond_false, wrap_i64_succ i (by omega)]
    exact r
theorem own19_kept {α : Type} {E : El α} {s s' : Sl} {σ σ' : Heap} {xs : List α} (h : s.Own E σ xs) (k : Kept s' σ σ') (hne : ∀ c, s.b = some c → s'.b ≠ some c) : s.Own E σ' xs := by
  cases h with
  | nil hb ho hn hx => exact .nil hb ho hn hx
  | row b hb ho hn hr => exact .row b hb ho hn (by rw [k.at_ b (List.getElem?_eq_some_iff.1 hr).1 (hne b hb)]; exact hr)
theorem sortN_perm' (l : List ByteArray) : (sortN l).Perm l := by
  unfold sortN
  have h := (List.mergeSort_perm (l.map bl) leB).map lb
  rw [List.map_map, show lb ∘ bl = id from funext lb_bl, List.map_id] at h
  exact h
theorem nodup_sort {t : Sto} (hn : (t.fs.map Fil.name).Nodup) : t.names.Nodup ∧ t.names.length = t.fs.length ∧ (t.names.Perm (t.fs.map Fil.name)) := by
  have p : t.names.Perm (t.fs.map Fil.name) := sortN_perm' _
  exact ⟨p.nodup_iff.2 hn, p.length_eq.trans (by rw [List.length_map]), p⟩
theorem sweeps_note {L s : Nat} {names : Sl} {σ0 σN : Heap} {d : SD} {n : Nat} (hL : 100000 < L) (hT : StandsS d.sto) (hR : Run σ0 σN d n) (hn : n ≤ 90000) (hs : d.s = s) (hN : names.Is eStr σN (noTilde d.sto.names)) (hNo : ∀ c, names.b = some c → c ∉ d.foot) :
    ∀ (k i m : Nat) (σ : Heap) (was : Sl), i + k = (noTilde d.sto.names).length → k < m → σN <+: σ → was.Own e19 σ (((noTilde d.sto.names).take i).map (getT d.sto)) → (∀ c, was.b = some c → σN.length ≤ c) →
      ∃ σ', law19_ShelfSweeps_L14 (R := AVal × Heap) c_law19_ShelfSweeps L m (some (s, 0)) names was names (names.n : Int) (i : Int) σ (fun v σ => some (v, σ)) = some (.bool true, σ')
  | k, i, 0, σ, was, _, h, _, _, _ => by omega
  | 0, i, m + 1, σ, was, hi, _, hp, hW, hWn => by
    have p1 : c_law19_ShelfSweeps.law19_Get = w_law19_Get := rfl
    have p2 : c_law19_ShelfSweeps.file_Store_Names = w_file_Store_Names := rfl
    have p3 : c_law19_ShelfSweeps.shelf_Sweep = w_shelf_Sweep := rfl
    have hnd : (d.sto.fs.map Fil.name).Nodup := by
      show ((d.fs.map FD.fil).map Fil.name).Nodup
      rw [List.map_map]
      exact hR.st.names
    obtain ⟨g1, g2, g3⟩ := nodup_sort hnd
    have hsz := hR.size
    have hlen : (noTilde d.sto.names).length ≤ d.sto.names.length := List.length_filter_le ..
    have hll : d.sto.names.length ≤ 90000 := by unfold Sto.size at hsz; omega
    rw [List.take_of_length_le (by omega)] at hW
    have hR1 := hR.pre hp
    have hget := hR1.get tilde
    rw [getS_sto] at hget
    have n1 := w_file_Store_Names_eq (m := .rw) trivial hR1.st
    have hfl : (namesD d).length = d.fs.length := by simp [namesD, sortN]
    have hfn := fresh_n eStr σ d.fs.isEmpty (namesD d) (fun he => List.eq_nil_of_length_eq_zero (by rw [hfl]; simpa using he))
    have AP := fresh_pre eStr σ d.fs.isEmpty (namesD d)
    generalize fresh eStr σ d.fs.isEmpty (namesD d) = q at n1 hfn AP
    have hdf : d.fs.length = d.sto.fs.length := by simp [SD.sto]
    obtain ⟨t1, e1, e2, e3, e4, e5, e6⟩ := sweep_all hT hnd
    obtain ⟨t2, f1, f2, f3, f4, f5, f6⟩ := sweep_all e2 e5
    obtain ⟨σa, da, a1, a2, a3, a4, a5⟩ := (hR1.pre AP).sweep
    obtain ⟨σb, db, b1, b2, b3, b4, b5⟩ := a2.sweep
    rw [e1] at a1 a3
    dsimp only at a3
    rw [a3, f1] at b1 b3
    dsimp only at b3
    have hget2 := b2.get tilde
    rw [getS_sto, b3] at hget2
    have out : ∀ {sl : Sl}, (∀ c, sl.b = some c → σN.length ≤ c) → ∀ c, sl.b = some c → c ∉ d.foot := fun h c hc hm => by have := h c hc; have := hR.st.foot_lt hm; omega
    obtain ⟨n2, n3⟩ := is_fr ((hN.pre hp).pre AP) a5 hNo
    obtain ⟨n4, _⟩ := is_fr n2 b5 n3
    obtain ⟨w2, w3⟩ := is_fr ((hW.is (by rw [List.length_map]; omega)).pre AP) a5 (out hWn)
    obtain ⟨w4, _⟩ := is_fr w2 b5 w3
    have mem_ne : ∀ x ∈ noTilde d.sto.names, x ≠ tilde := fun x hx => by
      have := (List.mem_filter.1 hx).2
      simpa using this
    have hsame : ∀ x ∈ noTilde d.sto.names, getT db.sto x = getT d.sto x := fun x hx => by
      have hx' := mem_ne x hx
      have eg : t2.get x = d.sto.get x := (f4 x hx').trans (e4 x hx')
      rw [b3]
      unfold getT readS
      rw [eg, f2.1, hT.1]
    have hfs : db.fs.length = (noTilde d.sto.names).length := by
      have h1 : t2.fs.length = (noTilde (t1.fs.map Fil.name)).length := by rw [← f6.length_eq, List.length_map]
      have h2 : noTilde (t1.fs.map Fil.name) = t1.fs.map Fil.name := List.filter_eq_self.2 fun x hx => by
        obtain ⟨f, hf, rfl⟩ := List.mem_map.1 hx
        have := getK_none.1 e3 f hf
        simp [this]
      have h3 : (noTilde d.sto.names).Perm (noTilde (d.sto.fs.map Fil.name)) := g3.filter _
      have h4 : db.fs.length = t2.fs.length := by rw [← b3]; simp [SD.sto]
      rw [h4, h1, h2, h3.length_eq, ← e6.length_eq]
    have hThere : (getT t2 tilde).There = false := by
      unfold getT readS
      rw [f2.1, f3]
      rfl
    have hhad : (getT d.sto tilde).There = ((d.fs.length : Int) == (((noTilde d.sto.names).length + 1 : Nat) : Int)) := by
      obtain ⟨i1, i2⟩ := noTilde_len g1
      cases hgt : d.sto.get tilde with
      | none =>
        have hnm : tilde ∉ d.sto.names := fun hm => by
          obtain ⟨f, hf, hfe⟩ := List.mem_map.1 (g3.mem_iff.1 hm)
          exact getK_none.1 hgt f hf hfe
        have h1 : (getT d.sto tilde).There = false := by unfold getT readS; rw [hT.1, hgt]; rfl
        rw [h1, hdf, ← g2, i2 hnm]
        symm
        rw [beq_eq_false_iff_ne]
        omega
      | some f =>
        have hm : tilde ∈ d.sto.names := g3.mem_iff.2 (by
          obtain ⟨h1, h2⟩ := getK_mem hgt
          rw [← h2]
          exact List.mem_map_of_mem h1)
        have h1 : (getT d.sto tilde).There = true := by unfold getT readS; rw [hT.1, hgt]; rfl
        rw [h1, hdf, ← g2, i1 hm]
        exact (beq_self_eq_true _).symm
    obtain ⟨σE, z⟩ := sweeps_check (L := L) (s := s) (names := names) (was := was) hhad (by omega) hfs hsame (noTilde d.sto.names).length 0 L _ σb (by omega) (by omega) b2 (by rw [b4, a4]; exact hs) n4 w4
    have hni : (names.n : Int) = ((noTilde d.sto.names).length : Int) := by rw [hN.n]
    rw [b4, a4, hs] at hget2
    rw [a4, hs] at b1
    rw [hs] at hget n1 a1
    rw [law19_ShelfSweeps_L14_eq, p1, p2, p3, hni, lt_false (by omega), cond_false, show (⟨#[126]⟩ : ByteArray) = tilde from rfl, hget, Option.bind_some]
    dsimp only
    rw [n1, Option.bind_some, a1, Option.bind_some]
    dsimp only
    rw [bne_self_eq_false, cond_false, b1, Option.bind_some]
    dsimp only
    rw [bne_self_eq_false, cond_false, hget2, Option.bind_some]
    dsimp only
    rw [hThere, cond_false, hfn, hfl]
    exact ⟨σE, z⟩
  | k + 1, i, m + 1, σ, was, hi, hm, hp, hW, hWn => by
    have hsz := hR.size
    have hil : i < (noTilde d.sto.names).length := by omega
    have hlen : (noTilde d.sto.names).length ≤ d.sto.names.length := List.length_filter_le ..
    have hnl : d.sto.names.length ≤ 90000 := by
      have : d.sto.names.length = d.sto.fs.length := by simp [Sto.names, sortN]
      unfold Sto.size at hsz
      omega
    have hmi := List.getElem?_eq_getElem hil
    have htk : (noTilde d.sto.names).take (i + 1) = (noTilde d.sto.names).take i ++ [(noTilde d.sto.names)[i]] := List.take_succ_eq_append_getElem hil
    generalize (noTilde d.sto.names)[i] = x at hmi htk
    have hxt : x ≠ tilde := by
      have := (List.mem_filter.1 (List.mem_of_getElem? hmi)).2
      simpa using this
    have p1 : c_law19_ShelfSweeps.law19_Get = w_law19_Get := rfl
    obtain ⟨b1, n1, n2⟩ := str_cell (hN.pre hp) hmi
    have hget := (hR.pre hp).get x
    rw [getS_sto, hs] at hget
    have hlt : (((noTilde d.sto.names).take i).map (getT d.sto)).length = i := by rw [List.length_map, List.length_take]; omega
    obtain ⟨q, σ2, q1, q2, q3, q4⟩ := append_own (ys := [getT d.sto x]) hW (bytes := 32) (vs := [.str (getT d.sto x).Data, .int .i64 (getT d.sto x).Sure, .bool (getT d.sto x).There]) (k := 1) rfl rfl (by rw [hlt]; simp; omega) (by rw [hlt]; simp; omega)
    have hz : e19.z = 3 := rfl
    rw [hz] at q1
    have hp2 : σN <+: σ2 := Kept.pre hp q3 hWn
    rw [← List.map_singleton (f := getT d.sto), ← List.map_append, ← htk] at q2
    obtain ⟨σE, z⟩ := sweeps_note hL hT hR hn hs hN hNo k (i + 1) m σ2 ⟨q.1, q.2.1, q.2.2⟩ (by omega) (by omega) hp2 q2 (fun c hc => by
      rcases q4 c hc with h | h
      · exact hWn c h
      · have := hp.length_le; omega)
    have hni : (names.n : Int) = ((noTilde d.sto.names).length : Int) := by rw [hN.n]
    rw [law19_ShelfSweeps_L14_eq, p1, hni, lt_true hil, cond_true, dec0, Bool.and_true, cond_true, n1, Option.bind_some, show ((i : Nat) : Int).toNat = i from rfl, n2, show str? (some (AVal.str x)) = some x from rfl, Option.bind_some, ba_beq, decide_eq_false (show ¬ x = ⟨#[126]⟩ from hxt), cond_false, hget, Option.bind_some]
    dsimp only
    rw [q1, Option.bind_some, wrap_i64_succ i (by omega), ← hni]
    exact ⟨σE, z⟩
theorem sweeps_calls {L s : Nat} {calls : Sl} {σ0 : Heap} {cs : List law04_Call} {ps : List PCall} (hC : CallsIs σ0 calls cs ps) (hL : 100000 < L) :
    ∀ (k i m : Nat) (σ : Heap) (d : SD), i + k = cs.length → k < m → Run σ0 σ d (101 * i) → d.s = s → StandsS d.sto →
      ∃ σ', law19_ShelfSweeps_L7 (R := AVal × Heap) c_law19_ShelfSweeps L m (some (s, 0)) calls (i : Int) σ (fun v σ => some (v, σ)) = some (.bool true, σ')
  | k, i, 0, σ, d, _, h, _, _, _ => by omega
  | 0, i, m + 1, σ, d, hi, _, hR, hs, hT => by
    have hl := hC.few
    have p1 : c_law19_ShelfSweeps.shelf_Names = w_shelf_Names := rfl
    have n1 := w_shelf_Names_eq hR.st
    have A := fresh_own eStr σ (noTilde d.sto.names).isEmpty (noTilde d.sto.names) (fun h => by simpa using h)
    have AP := fresh_pre eStr σ (noTilde d.sto.names).isEmpty (noTilde d.sto.names)
    have AN := fresh_new eStr σ (noTilde d.sto.names).isEmpty (noTilde d.sto.names)
    have hsz := hR.size
    have hlen : (noTilde d.sto.names).length ≤ d.sto.names.length := List.length_filter_le ..
    have hnl : d.sto.names.length ≤ 90000 := by
      have : d.sto.names.length = d.sto.fs.length := by simp [Sto.names, sortN]
      unfold Sto.size at hsz
      omega
    rw [hs] at n1
    rw [law19_ShelfSweeps_L7_eq, p1, hC.is.n, lt_false (by omega), cond_false, n1, Option.bind_some]
    generalize fresh eStr σ (noTilde d.sto.names).isEmpty (noTilde d.sto.names) = q at A AP AN
    obtain ⟨σE, z⟩ := sweeps_note (L := L) hL hT (hR.pre AP) (by omega) hs (A.is (by omega)) (fun c hc hm => by have := AN c hc; have := hR.st.foot_lt hm; omega) (noTilde d.sto.names).length 0 L q.2 ⟨none, 0, 0⟩ (by omega) (by omega) List.prefix_rfl (.nil rfl rfl rfl rfl) (fun c hc => by cases hc)
    exact ⟨σE, z⟩
  | k + 1, i, m + 1, σ, d, hi, hm, hR, hs, hT => by
    have hil : i < cs.length := by omega
    have hl := hC.few
    obtain ⟨ck, cn, cna, cto, cb, co, cl, xs, b, e1, e2, e3, e4, e5⟩ := at_call hC hil
    obtain ⟨f0, f1, f2, f3, f4⟩ := e5 σ hR.ro
    have p4 : c_law19_ShelfSweeps.law19_Do = w_law19_Do := rfl
    rw [law19_ShelfSweeps_L7_eq, p4, hC.is.n, lt_true hil, cond_true, dec0, Bool.and_true, cond_true, e4, Option.bind_some, show ((i : Nat) : Int).toNat = i from rfl, f0, Option.bind_some, f1, Option.bind_some, f2, Option.bind_some, f3, Option.bind_some, f4, Option.bind_some]
    dsimp only
    obtain ⟨σ1, d1, a1, a2, a3, a4, _⟩ := hR.doS (by omega) e2
    rw [hs] at a1 a4
    rw [a1, Option.bind_some, wrap_i64_succ i (by omega)]
    exact sweeps_calls hC hL k (i + 1) m σ1 d1 (by omega) (by omega) (a2.more (by omega)) a4 (by rw [a3]; exact doS_stands hT)
theorem law_ShelfSweeps {σ0 : Heap} {calls : Sl} {cs : List law04_Call} {ps : List PCall} (hA : CallsArg σ0 calls cs ps) : ∃ σ1, CallOK Try.prog T 11 [.slice calls.b calls.o calls.n 5] σ0 (.bool true) σ1 := by
  have p1 : c_law19_ShelfSweeps.law19_fit = w_law19_fit := rfl
  have p2 : c_law19_ShelfSweeps.law19_small = w_law19_small := rfl
  have p3 : c_law19_ShelfSweeps.file_New = w_file_New := rfl
  have hr := law19_ShelfSweeps_eq (R := AVal × Heap) c_law19_ShelfSweeps (cs.length + 100001) calls σ0 fun v σ => some (v, σ)
  have hK := K_law19_ShelfSweeps c_law19_ShelfSweeps ok_file_New ok_file_Store_Names ok_law19_fit ok_law19_Get ok_law19_small ok_law19_Do ok_shelf_Names ok_shelf_Sweep
  rw [p1, w_law19_fit, Option.bind_some, p2, p3] at hr
  simp only [Bool.not_true, cond_false] at hr
  rcases w_law19_small_eq hA with h | ⟨h, hC, _⟩
  · rw [h, Option.bind_some] at hr
    exact ⟨σ0, call_ok ok hK hr⟩
  rw [h, Option.bind_some] at hr
  dsimp only at hr
  rw [show (!true) = false from rfl, cond_false] at hr
  obtain ⟨σ1, d, a1, a2, a3, _⟩ := Run.new 1048576 (by decide) σ0
  obtain ⟨σ3, r1⟩ := sweeps_calls (L := cs.length + 100001) hC (by omega) cs.length 0 (cs.length + 100001) σ1 d (by omega) (by omega) (a2.more (by omega)) rfl (by rw [a3]; exact ⟨rfl, rfl⟩)
  rw [a1, Option.bind_some] at hr
  exact ⟨σ3, call_ok ok hK (hr.trans r1)⟩
end Go.Abs.TC
