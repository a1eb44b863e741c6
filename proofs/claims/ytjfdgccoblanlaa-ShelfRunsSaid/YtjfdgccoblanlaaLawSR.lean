/-
The law ShelfRuns, on the machine.
-/
import Derived.Test.YtjfdgccoblanlaaLawSS
import Derived.Test.YtjfdgccoblanlaaMConL
namespace Go.Abs.TC
open Go Go.Abs Go.Proofs

noncomputable def c_law19_ShelfRuns : C_law19_ShelfRuns := { file_New := w_file_New, file_Store_Used := w_file_Store_Used, law19_fit := w_law19_fit, shelf_Save := w_shelf_Save, law19_Get := w_law19_Get, law19_small := w_law19_small, law19_Do := w_law19_Do, shelf_Names := w_shelf_Names }
theorem one_beq' (q : law19_One) : ((q.Data.toList == q.Data.toList) && ((q.Sure == q.Sure) && ((q.There == q.There) && true))) = true := by simp
theorem runs_check {L s : Nat} {nm : ByteArray} {b names was : Sl} {e : Int} {ns : List ByteArray} {g : ByteArray → law19_One} {xs : List UInt8} (hns : ns.length ≤ 100000) {σ0 σ : Heap} {d : SD} {n : Nat} (hg : ∀ x ∈ ns, x ≠ nm ∨ e ≠ 0 → getT d.sto x = g x) (hR : Run σ0 σ d n) (hs : d.s = s) (hN : names.Is eStr σ ns) (hW : was.Is e19 σ (ns.map g)) (hX : b.Is eU8 σ xs) (he : e = 0 → getT d.sto nm = oneOf (some ⟨nm, xs, xs.length⟩)) :
    ∀ (k i m : Nat), i + k = ns.length → k < m →
      ∃ σ', law19_ShelfRuns_L28 (R := AVal × Heap) c_law19_ShelfRuns L m nm b (some (s, 0)) was e names (i : Int) σ (fun v σ => some (v, σ)) = some (.bool true, σ')
  | k, i, 0, _, h => by omega
  | 0, i, m + 1, hi, _ => by
    have p1 : c_law19_ShelfRuns.law19_Get = w_law19_Get := rfl
    rw [law19_ShelfRuns_L28_eq, p1, hN.n, lt_false (by omega), cond_false]
    by_cases he0 : e = 0
    · have hget := hR.getz nm
      rw [getS_sto, he he0, hs] at hget
      have hX4 := hX.read
      have hz : eU8.z = 1 := rfl
      rw [hz] at hX4
      rw [he0, bne_self_eq_false, cond_false, hget, Option.bind_some]
      dsimp only
      rw [Heap.back_frz, hX4, Option.bind_some, bytes_all, Option.bind_some, hX.n]
      refine ⟨σ, ?_⟩
      simp [oneOf]
    · rw [show (e != 0) = true by simpa using he0, cond_true]
      exact ⟨σ, rfl⟩
  | k + 1, i, m + 1, hi, hm => by
    have hil : i < ns.length := by omega
    have hmi := List.getElem?_eq_getElem hil
    generalize ns[i] = x at hmi
    have p1 : c_law19_ShelfRuns.law19_Get = w_law19_Get := rfl
    obtain ⟨b1, n1, n2⟩ := str_cell hN hmi
    have hwi : (ns.map g)[i]? = some (g x) := by rw [List.getElem?_map, hmi]; rfl
    obtain ⟨b2, w1, w2, w3, w4⟩ := one19_cells hW hwi
    have hwn := hW.n
    rw [List.length_map] at hwn
    obtain ⟨σ', r⟩ := runs_check (L := L) hns hg hR hs hN hW hX he k (i + 1) m (by omega) (by omega)
    refine ⟨σ', ?_⟩
    rw [law19_ShelfRuns_L28_eq, p1, hN.n, lt_true hil, cond_true, dec0, Bool.and_true, cond_true, n1, Option.bind_some, show ((i : Nat) : Int).toNat = i from rfl, n2, show str? (some (AVal.str x)) = some x from rfl, Option.bind_some, ba_beq]
    by_cases hx : x = nm ∧ e = 0
    · rw [decide_eq_true hx.1, Bool.not_true, cond_false, show (e != 0) = false by simpa using hx.2, cond_false, wrap_i64_succ i (by omega)]
      exact r
    · have hget := hR.getz x
      rw [getS_sto, hg x (List.mem_of_getElem? hmi) (by
        by_cases h1 : x = nm
        · exact .inr fun h2 => hx ⟨h1, h2⟩
        · exact .inl h1), hs] at hget
      have hone : (!(((g x).Data.toList == (g x).Data.toList) && (((g x).Sure == (g x).Sure) && (((g x).There == (g x).There) && true)))) = false := by simp
      by_cases h1 : x = nm
      · have h2 : e ≠ 0 := fun h2 => hx ⟨h1, h2⟩
        rw [decide_eq_true h1, Bool.not_true, cond_false, show (e != 0) = true by simpa using h2, cond_true, hget, Option.bind_some]
        dsimp only
        rw [Heap.back_frz, hwn, lt_true hil, Bool.and_true, cond_true, w1, Option.bind_some, w2, Option.bind_some, w3, Option.bind_some, w4, Option.bind_some, hone, cond_false, wrap_i64_succ i (by omega)]
        exact r
      · rw [decide_eq_false h1, Bool.not_false, cond_true, hget, Option.bind_some]
        dsimp only
        rw [Heap.back_frz, hwn, lt_true hil, Bool.and_true, cond_true, w1, Option.bind_some, w2, Option.bind_some, w3, Option.bind_some, w4, Option.bind_some, hone, cond_false, wrap_i64_succ i (by omega)]
        exact r
theorem oneOf_size (o : Option Fil) : (oneOf o).Data.size = (o.map fun f => f.data.length).getD 0 := by cases o <;> simp [oneOf, ByteArray.size]
theorem save_bad {t : Sto} {nm : ByteArray} {xs : List UInt8} (h : nm = ⟨#[]⟩ ∨ nm.size > 12 ∨ nm = tilde) : t.save nm xs = (3, t) := by
  unfold Sto.save
  by_cases h1 : nm = ⟨#[]⟩
  · rw [if_pos h1]
  rw [if_neg h1]
  by_cases h2 : nm.size > 12
  · rw [if_pos h2]
  rw [if_neg h2]
  rw [if_pos ((h.resolve_left h1).resolve_left h2)]
theorem runs_note {L s : Nat} {nm : ByteArray} {b names : Sl} {xs : List UInt8} {σ0 σN : Heap} {d : SD} {n : Nat} (hX : b.Is eU8 σ0 xs) (hXr : Ro σ0 b) (hxl : xs.length ≤ 200) (hL : 100000 < L) (hT : StandsS d.sto) (hQ : d.sto.quota = 100) (hR : Run σ0 σN d n) (hn : n ≤ 90000) (hs : d.s = s) (hN : names.Is eStr σN (noTilde d.sto.names)) (hNo : ∀ c, names.b = some c → c ∉ d.foot) :
    ∀ (k i m : Nat) (σ : Heap) (was : Sl), i + k = (noTilde d.sto.names).length → k < m → σN <+: σ → was.Own e19 σ (((noTilde d.sto.names).take i).map (getT d.sto)) → (∀ c, was.b = some c → σN.length ≤ c) →
      ∃ σ', law19_ShelfRuns_L14 (R := AVal × Heap) c_law19_ShelfRuns L m nm b (some (s, 0)) names was names (names.n : Int) (i : Int) σ (fun v σ => some (v, σ)) = some (.bool true, σ')
  | k, i, 0, σ, was, _, h, _, _, _ => by omega
  | 0, i, m + 1, σ, was, hi, _, hp, hW, hWn => by
    have p1 : c_law19_ShelfRuns.law19_Get = w_law19_Get := rfl
    have p2 : c_law19_ShelfRuns.file_Store_Used = w_file_Store_Used := rfl
    have p3 : c_law19_ShelfRuns.shelf_Save = w_shelf_Save := rfl
    have hsz := hR.size
    have hlen : (noTilde d.sto.names).length ≤ d.sto.names.length := List.length_filter_le ..
    have hll : d.sto.names.length ≤ 90000 := by
      have : d.sto.names.length = d.sto.fs.length := by simp [Sto.names, sortN]
      unfold Sto.size at hsz
      omega
    rw [List.take_of_length_le (by omega)] at hW
    have hR1 := hR.pre hp
    have hused := hR1.used
    have hget := hR1.get tilde
    rw [getS_sto, getT_eq hT.1] at hget
    have hX1 := is_keep hX hXr hR1.ro
    have hXo := (hXr.keep hR1.ro).out hR1.st
    obtain ⟨σ2, d2, c1, c2, c3, c4, c5⟩ := hR1.save (by omega) nm hX1 hXo (by omega)
    have out : ∀ {sl : Sl}, (∀ c, sl.b = some c → σN.length ≤ c) → ∀ c, sl.b = some c → c ∉ d.foot := fun h c hc hm => by have := h c hc; have := hR.st.foot_lt hm; omega
    obtain ⟨n4, _⟩ := is_fr (hN.pre hp) c5 hNo
    obtain ⟨w4, _⟩ := is_fr (hW.is (by rw [List.length_map]; omega)) c5 (out hWn)
    obtain ⟨x4, _⟩ := is_fr hX1 c5 hXo
    have mem_ne : ∀ x ∈ noTilde d.sto.names, x ≠ tilde := fun x hx => by
      have := (List.mem_filter.1 hx).2
      simpa using this
    have huq : d.sto.used ≤ 100 := by
      rw [← hQ, d.used_sto]
      exact hR.st.used
    have hget2 := c2.get tilde
    have hget2z := c2.getz tilde
    rw [getS_sto, c4, hs] at hget2 hget2z
    rw [hs] at hget c1 hused
    have fin : ∀ e : Int, (∀ x ∈ noTilde d.sto.names, x ≠ nm ∨ e ≠ 0 → getT d2.sto x = getT d.sto x) → (e = 0 → getT d2.sto nm = oneOf (some ⟨nm, xs, xs.length⟩)) →
        ∃ σ', law19_ShelfRuns_L28 (R := AVal × Heap) c_law19_ShelfRuns L L nm b (some (s, 0)) was e names 0 σ2 (fun v σ => some (v, σ)) = some (.bool true, σ') := fun e h1 h2 =>
      runs_check (L := L) (by omega) h1 c2 (c4.trans hs) n4 w4 x4 h2 (noTilde d.sto.names).length 0 L (by omega) (by omega)
    have hni : (names.n : Int) = ((noTilde d.sto.names).length : Int) := by rw [hN.n]
    have bad : d.sto.save nm xs = (3, d.sto) → ∃ σ', law19_ShelfRuns_L28 (R := AVal × Heap) c_law19_ShelfRuns L L nm b (some (s, 0)) was 3 names 0 σ2 (fun v σ => some (v, σ)) = some (.bool true, σ') := fun h => by
      rw [h] at c3
      exact fin 3 (fun x _ _ => by rw [c3]) (fun h => absurd h (by decide))
    have badG : d.sto.save nm xs = (3, d.sto) → w_law19_Get (some (s, 0)) tilde σ2.frz = some (oneOf (d.sto.get tilde), σ2.frz) := fun h => by
      rw [h] at c3
      rw [hget2z, c3, getT_eq hT.1]
    rw [law19_ShelfRuns_L14_eq, p1, p2, p3, hni, lt_false (by omega), cond_false, show (⟨#[126]⟩ : ByteArray) = tilde from rfl, hused, Option.bind_some]
    dsimp only
    rw [hget, Option.bind_some]
    dsimp only
    rw [c1, Option.bind_some]
    dsimp only
    rw [ba_beq, ba_beq]
    by_cases h1 : nm = ⟨#[]⟩
    · have hb := save_bad (t := d.sto) (xs := xs) (.inl h1)
      obtain ⟨σE, z⟩ := bad hb
      rw [decide_eq_true h1, cond_true, hb]
      dsimp only
      rw [bne_self_eq_false, cond_false, cond_false, beq_self_eq_true, cond_true, badG hb, Option.bind_some]
      dsimp only
      rw [one_beq', Bool.not_true, cond_false, Heap.back_frz]
      exact ⟨σE, z⟩
    rw [decide_eq_false h1, cond_false]
    by_cases h2 : nm.size > 12
    · have hb := save_bad (t := d.sto) (xs := xs) (.inr (.inl h2))
      obtain ⟨σE, z⟩ := bad hb
      rw [decide_eq_true (show (nm.size : Int) > 12 by omega), cond_true, hb]
      dsimp only
      rw [bne_self_eq_false, cond_false, cond_false, beq_self_eq_true, cond_true, badG hb, Option.bind_some]
      dsimp only
      rw [one_beq', Bool.not_true, cond_false, Heap.back_frz]
      exact ⟨σE, z⟩
    rw [decide_eq_false (show ¬ (nm.size : Int) > 12 by omega), cond_false]
    by_cases h3 : nm = tilde
    · have hb := save_bad (t := d.sto) (xs := xs) (.inr (.inr h3))
      obtain ⟨σE, z⟩ := bad hb
      rw [decide_eq_true h3, cond_true, hb]
      dsimp only
      rw [bne_self_eq_false, cond_false, cond_false, beq_self_eq_true, cond_true, badG hb, Option.bind_some]
      dsimp only
      rw [one_beq', Bool.not_true, cond_false, Heap.back_frz]
      exact ⟨σE, z⟩
    rw [decide_eq_false h3, cond_false]
    have hok : nameOk nm = true := by
      unfold nameOk
      have : nm.size ≠ 0 := fun h => h1 (by
        apply ByteArray.ext
        exact Array.eq_empty_of_size_eq_zero h)
      exact decide_eq_true ⟨this, by omega⟩
    have hS := save_saved (t := d.sto) hR.nod hT.1 hok h3 xs
    have hxn := hX.n
    have hsz2 := oneOf_size (d.sto.get tilde)
    have htl : ((d.sto.get tilde).map fun f => f.data.length).getD 0 ≤ 100 := by
      cases hgt : d.sto.get tilde with
      | none => exact Nat.zero_le _
      | some f =>
        have := used_del hgt
        show f.data.length ≤ 100
        omega
    rw [hsz2, hxn, wrap_i64_of (n := 100 - (d.sto.used : Int)) (by omega) (by omega)]
    rw [wrap_i64_of (n := 100 - (d.sto.used : Int) + ((((d.sto.get tilde).map fun f => f.data.length).getD 0 : Nat) : Int)) (by omega) (by omega)]
    cases hS with
    | falls hr ha hd ho => rw [hT.2] at ha; cases ha
    | full hr hd ha hroom ht ho =>
      rw [hQ] at hroom
      rw [← c3] at ht ho hd
      have e1 : getT d2.sto tilde = oneOf none := by rw [getT_eq hd, ht]
      rw [e1] at hget2
      obtain ⟨σE, z⟩ := fin 5 (fun x hx _ => by rw [getT_eq hd, getT_eq hT.1, ho x (mem_ne x hx)]) (fun h => absurd h (by decide))
      rw [hr, decide_eq_true (by omega), cond_true, bne_self_eq_false, cond_false, show ((5 : Int) != 3) = true from rfl, cond_true, hget2, Option.bind_some]
      dsimp only
      rw [show (oneOf none).There = false from rfl, cond_false, show ((5 : Int) == 3) = false from rfl, cond_false]
      exact ⟨σE, z⟩
    | ok hr hd ha hroom hn' ht ho =>
      rw [hQ] at hroom
      rw [← c3] at ht ho hd hn'
      have e1 : getT d2.sto tilde = oneOf none := by rw [getT_eq hd, ht]
      rw [e1] at hget2
      obtain ⟨σE, z⟩ := fin 0 (fun x hx h => by rw [getT_eq hd, getT_eq hT.1, ho x (h.resolve_right (fun h => h rfl)) (mem_ne x hx)]) (fun _ => by rw [getT_eq hd, hn'])
      rw [hr, decide_eq_false (by omega), cond_false, bne_self_eq_false, cond_false, show ((0 : Int) != 3) = true from rfl, cond_true, hget2, Option.bind_some]
      dsimp only
      rw [show (oneOf none).There = false from rfl, cond_false, show ((0 : Int) == 3) = false from rfl, cond_false]
      exact ⟨σE, z⟩
  | k + 1, i, m + 1, σ, was, hi, hm, hp, hW, hWn => by
    have hsz := hR.size
    have hil : i < (noTilde d.sto.names).length := by omega
    have hlen : (noTilde d.sto.names).length ≤ d.sto.names.length := List.length_filter_le ..
    have hnl : d.sto.names.length ≤ 90000 := by
      have : d.sto.names.length = d.sto.fs.length := by simp [Sto.names, sortN]
      unfold Sto.size at hsz
      omega
    have hmi := List.getElem?_eq_getElem hil
    have htk : (noTilde d.sto.names).take (i + 1) = (noTilde d.sto.names).take i ++ [(noTilde d.sto.names)[i]] := List.take_succ_eq_append_getElem hil
    generalize (noTilde d.sto.names)[i] = x at hmi htk
    have p1 : c_law19_ShelfRuns.law19_Get = w_law19_Get := rfl
    obtain ⟨b1, n1, n2⟩ := str_cell (hN.pre hp) hmi
    have hget := (hR.pre hp).get x
    rw [getS_sto, hs] at hget
    have hlt : (((noTilde d.sto.names).take i).map (getT d.sto)).length = i := by rw [List.length_map, List.length_take]; omega
    obtain ⟨q, σ2, q1, q2, q3, q4⟩ := append_own (ys := [getT d.sto x]) hW (bytes := 32) (vs := [.str (getT d.sto x).Data, .int .i64 (getT d.sto x).Sure, .bool (getT d.sto x).There]) (k := 1) rfl rfl (by rw [hlt]; simp; omega) (by rw [hlt]; simp; omega)
    have hz : e19.z = 3 := rfl
    rw [hz] at q1
    have hp2 : σN <+: σ2 := Kept.pre hp q3 hWn
    rw [← List.map_singleton (f := getT d.sto), ← List.map_append, ← htk] at q2
    obtain ⟨σE, z⟩ := runs_note (nm := nm) hX hXr hxl hL hT hQ hR hn hs hN hNo k (i + 1) m σ2 ⟨q.1, q.2.1, q.2.2⟩ (by omega) (by omega) hp2 q2 (fun c hc => by
      rcases q4 c hc with h | h
      · exact hWn c h
      · have := hp.length_le; omega)
    have hni : (names.n : Int) = ((noTilde d.sto.names).length : Int) := by rw [hN.n]
    rw [law19_ShelfRuns_L14_eq, p1, hni, lt_true hil, cond_true, dec0, Bool.and_true, cond_true, n1, Option.bind_some, show ((i : Nat) : Int).toNat = i from rfl, n2, show str? (some (AVal.str x)) = some x from rfl, Option.bind_some, hget, Option.bind_some]
    dsimp only
    rw [q1, Option.bind_some, wrap_i64_succ i (by omega), ← hni]
    exact ⟨σE, z⟩
theorem runs_calls {L s : Nat} {nm : ByteArray} {b calls : Sl} {xs : List UInt8} {σ0 : Heap} {cs : List law04_Call} {ps : List PCall} (hC : CallsIs σ0 calls cs ps) (hX : b.Is eU8 σ0 xs) (hXr : Ro σ0 b) (hxl : xs.length ≤ 200) (hL : 100000 < L) :
    ∀ (k i m : Nat) (σ : Heap) (d : SD), i + k = cs.length → k < m → Run σ0 σ d (101 * i) → d.s = s → StandsS d.sto → d.sto.quota = 100 →
      ∃ σ', law19_ShelfRuns_L7 (R := AVal × Heap) c_law19_ShelfRuns L m nm b (some (s, 0)) calls (i : Int) σ (fun v σ => some (v, σ)) = some (.bool true, σ')
  | k, i, 0, σ, d, _, h, _, _, _, _ => by omega
  | 0, i, m + 1, σ, d, hi, _, hR, hs, hT, hQ => by
    have hl := hC.few
    have p1 : c_law19_ShelfRuns.shelf_Names = w_shelf_Names := rfl
    have n1 := w_shelf_Names_eq hR.st
    have A := fresh_own eStr σ (noTilde d.sto.names).isEmpty (noTilde d.sto.names) (fun h => by simpa using h)
    have AP := fresh_pre eStr σ (noTilde d.sto.names).isEmpty (noTilde d.sto.names)
    have AN := fresh_new eStr σ (noTilde d.sto.names).isEmpty (noTilde d.sto.names)
    have hsz := hR.size
    have hlen : (noTilde d.sto.names).length ≤ d.sto.names.length := List.length_filter_le ..
    have hnl : d.sto.names.length ≤ 90000 := by
      have : d.sto.names.length = d.sto.fs.length := by simp [Sto.names, sortN]
      unfold Sto.size at hsz
      omega
    rw [hs] at n1
    rw [law19_ShelfRuns_L7_eq, p1, hC.is.n, lt_false (by omega), cond_false, n1, Option.bind_some]
    generalize fresh eStr σ (noTilde d.sto.names).isEmpty (noTilde d.sto.names) = q at A AP AN
    obtain ⟨σE, z⟩ := runs_note (L := L) (nm := nm) hX hXr hxl hL hT hQ (hR.pre AP) (by omega) hs (A.is (by omega)) (fun c hc hm => by have := AN c hc; have := hR.st.foot_lt hm; omega) (noTilde d.sto.names).length 0 L q.2 ⟨none, 0, 0⟩ (by omega) (by omega) List.prefix_rfl (.nil rfl rfl rfl rfl) (fun c hc => by cases hc)
    exact ⟨σE, z⟩
  | k + 1, i, m + 1, σ, d, hi, hm, hR, hs, hT, hQ => by
    have hil : i < cs.length := by omega
    have hl := hC.few
    obtain ⟨ck, cn, cna, cto, cb, co, cl, ys, bb, e1, e2, e3, e4, e5⟩ := at_call hC hil
    obtain ⟨f0, f1, f2, f3, f4⟩ := e5 σ hR.ro
    have p4 : c_law19_ShelfRuns.law19_Do = w_law19_Do := rfl
    rw [law19_ShelfRuns_L7_eq, p4, hC.is.n, lt_true hil, cond_true, dec0, Bool.and_true, cond_true, e4, Option.bind_some, show ((i : Nat) : Int).toNat = i from rfl, f0, Option.bind_some, f1, Option.bind_some, f2, Option.bind_some, f3, Option.bind_some, f4, Option.bind_some]
    dsimp only
    obtain ⟨σ1, d1, a1, a2, a3, a4, _⟩ := hR.doS (by omega) e2
    rw [hs] at a1 a4
    rw [a1, Option.bind_some, wrap_i64_succ i (by omega)]
    exact runs_calls hC hX hXr hxl hL k (i + 1) m σ1 d1 (by omega) (by omega) (a2.more (by omega)) a4 (by rw [a3]; exact doS_stands hT) (by rw [a3, (doS_all d.sto _ hR.left).2.2]; exact hQ)
theorem law_ShelfRuns {σ0 : Heap} {calls b : Sl} {nm : ByteArray} {xs : List UInt8} {cs : List law04_Call} {ps : List PCall} (hA : CallsArg σ0 calls cs ps) (hX : SlArg eU8 σ0 b xs) : ∃ σ1, CallOK Try.prog T 9 [.slice calls.b calls.o calls.n 5, .str nm, .slice b.b b.o b.n 1] σ0 (.bool true) σ1 := by
  have p1 : c_law19_ShelfRuns.law19_fit = w_law19_fit := rfl
  have p2 : c_law19_ShelfRuns.law19_small = w_law19_small := rfl
  have p3 : c_law19_ShelfRuns.file_New = w_file_New := rfl
  have hr := law19_ShelfRuns_eq (R := AVal × Heap) c_law19_ShelfRuns (cs.length + 100001) calls nm b σ0 fun v σ => some (v, σ)
  have hK := K_law19_ShelfRuns c_law19_ShelfRuns ok_file_New ok_file_Store_Used ok_law19_fit ok_shelf_Save ok_law19_Get ok_law19_small ok_law19_Do ok_shelf_Names
  rw [p1, w_law19_fit, Option.bind_some, p2, p3] at hr
  simp only [Bool.not_true, cond_false] at hr
  rcases w_law19_small_eq hA with h | ⟨h, hC, _⟩
  · rw [h, Option.bind_some] at hr
    exact ⟨σ0, call_ok ok hK hr⟩
  rw [h, Option.bind_some] at hr
  dsimp only at hr
  rw [show (!true) = false from rfl, cond_false] at hr
  have hn := hX.n
  by_cases hx : xs.length > 200
  · rw [decide_eq_true (show (b.n : Int) > 200 by omega), cond_true] at hr
    exact ⟨σ0, call_ok ok hK hr⟩
  rw [decide_eq_false (show ¬ (b.n : Int) > 200 by omega), cond_false] at hr
  by_cases hm : nm.size > 50
  · rw [decide_eq_true (show (nm.size : Int) > 50 by omega), cond_true] at hr
    exact ⟨σ0, call_ok ok hK hr⟩
  rw [decide_eq_false (show ¬ (nm.size : Int) > 50 by omega), cond_false] at hr
  obtain ⟨σ1, d, a1, a2, a3, _⟩ := Run.new 100 (by decide) σ0
  obtain ⟨σ3, r1⟩ := runs_calls (L := cs.length + 100001) (nm := nm) hC (hX.is (by omega)) hX.ro (by omega) (by omega) cs.length 0 (cs.length + 100001) σ1 d (by omega) (by omega) (a2.more (by omega)) rfl (by rw [a3]; exact ⟨rfl, rfl⟩) (by rw [a3]; rfl)
  rw [a1, Option.bind_some] at hr
  exact ⟨σ3, call_ok ok hK (hr.trans r1)⟩
end Go.Abs.TC
