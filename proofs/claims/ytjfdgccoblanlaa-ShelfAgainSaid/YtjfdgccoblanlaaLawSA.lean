/-
The law ShelfAgain, on the machine.
-/
import Derived.Test.YtjfdgccoblanlaaMConL
import Derived.Test.YtjfdgccoblanlaaConTopG
namespace Go.Abs.TC
open Go Go.Abs Go.Proofs

noncomputable def c_law19_ShelfAgain : C_law19_ShelfAgain := { file_New := w_file_New, file_Store_Crash := w_file_Store_Crash, file_Store_Fuse := w_file_Store_Fuse, law19_fit := w_law19_fit, shelf_Save := w_shelf_Save, law19_Get := w_law19_Get }
/-- Bytes in memory, as the law finds them. -/
theorem bytes_at {σ0 : Heap} {l : Sl} {bs : List Sl} {xss : List (List UInt8)} (A : BytesArg σ0 l bs xss) (h30 : bs.length ≤ 30) {i : Nat} (hi : i < bs.length) :
    ∃ (b : Nat) (q : Option Nat × Nat × Nat) (xs : List UInt8), xss[i]? = some xs ∧ q.2.2 = xs.length ∧ l.b = some b ∧ SlArg eU8 σ0 ⟨q.1, q.2.1, q.2.2⟩ xs ∧ ∀ σ, RoKeep σ0 σ → slice? (σ.cell? b (l.o + i * 1)) 1 = some q := by
  have hx : i < xss.length := by rw [← A.len]; exact hi
  have h1 := List.getElem?_eq_getElem hi
  have h2 := List.getElem?_eq_getElem hx
  have hS := A.each i _ _ h1 h2
  have hall := A.is (by omega)
  obtain ⟨b, e1, _⟩ := hall.cell h1
  refine ⟨b, (bs[i].b, bs[i].o, bs[i].n), xss[i], h2, hS.n, e1, hS, fun σ hk => ?_⟩
  obtain ⟨b', e2, e3⟩ := (is_keep hall A.ro hk).cell h1
  rw [e1] at e2
  injection e2 with e2
  subst e2
  have c0 : σ.cell? b (l.o + i * 1 + 0) = some (.slice bs[i].b bs[i].o bs[i].n 1) := e3 0 (by decide)
  rw [Nat.add_zero] at c0
  rw [c0]
  rfl
/-- What the file is: none, or the bytes of one of those that were saved. -/
inductive Again (xss : List (List UInt8)) (t : Sto) (least : Int) (i : Nat) : Prop where
  | none (h : t.get nameF = none) (hl : least = -1)
  | some (k0 : Nat) (xs : List UInt8) (hx : xss[k0]? = some xs) (h : t.get nameF = some ⟨nameF, xs, xs.length⟩) (hk : k0 < i) (hl : least ≤ k0) (hl' : -1 ≤ least)
theorem Again.lasts {xss : List (List UInt8)} {t : Sto} {least : Int} {i : Nat} (h : Again xss t least i) : Lasts t nameF := fun f hf => by
  cases h with
  | none h _ => rw [h] at hf; cases hf
  | some k0 xs hx h _ _ _ => rw [h] at hf; injection hf with hf; subst hf; rfl
theorem Again.get {xss : List (List UInt8)} {t u : Sto} {least : Int} {i j : Nat} (h : Again xss t least i) (hij : i ≤ j) (e : u.get nameF = t.get nameF) : Again xss u least j := by
  cases h with
  | none h hl => exact .none (e.trans h) hl
  | some k0 xs hx h hk hl hl' => exact .some k0 xs hx (e.trans h) (by omega) hl hl'
theorem again_find {L fu0 s i : Nat} {l fuses : Sl} {least : Int} {σ0 σ : Heap} {bs : List Sl} {xss : List (List UInt8)} (A : BytesArg σ0 l bs xss) (h30 : bs.length ≤ 30) (hi : i < bs.length) (hsm : ∀ j, j ≤ i → ∀ xs, xss[j]? = some xs → xs.length ≤ 200) (hR : RoKeep σ0 σ) {k0 : Nat} {ys : List UInt8} (hk0 : k0 ≤ i) (hy : xss[k0]? = some ys) (K : AVal → Heap → Option (AVal × Heap)) :
    ∀ (n kk m : Nat) (found : Bool), kk + n = i + 1 → n < m → (found = true ∨ kk ≤ k0) →
      law19_ShelfAgain_L23 (R := AVal × Heap) c_law19_ShelfAgain L fu0 m l fuses (some (s, 0)) least (i : Int) found (kk : Int) (oneOf (some ⟨nameF, ys, ys.length⟩)) σ K =
        law19_ShelfAgain_L8 (R := AVal × Heap) c_law19_ShelfAgain L fu0 l fuses (some (s, 0)) least ((i + 1 : Nat) : Int) σ K
  | n, kk, 0, _, _, h, _ => by omega
  | 0, kk, m + 1, found, hkn, _, hf => by
    have : found = true := hf.resolve_right (by omega)
    subst this
    rw [law19_ShelfAgain_L23_eq, decide_eq_false (show ¬ (kk : Int) ≤ (i : Int) by omega), cond_false, Bool.not_true, cond_false, wrap_i64_succ i (by omega)]
    have : ((oneOf (some ⟨nameF, ys, ys.length⟩)).Sure != ((oneOf (some ⟨nameF, ys, ys.length⟩)).Data.size : Int)) = false := by
      simp [oneOf, ByteArray.size]
    rw [this, cond_false]
  | n + 1, kk, m + 1, found, hkn, hm, hf => by
    rw [law19_ShelfAgain_L23_eq, decide_eq_true (show (kk : Int) ≤ (i : Int) by omega), cond_true, wrap_i64_succ kk (by omega)]
    cases found with
    | true =>
      rw [cond_true]
      exact again_find A h30 hi hsm hR hk0 hy K n (kk + 1) m true (by omega) (by omega) (.inl rfl)
    | false =>
      have hkk : kk ≤ k0 := hf.resolve_left (by simp)
      obtain ⟨b, q, xs, e1, e2, e3, e4, e5⟩ := bytes_at A h30 (i := kk) (by omega)
      have hlen := hsm kk (by omega) xs e1
      have hn := A.n
      have hrd := (is_keep (e4.is (by omega)) e4.ro hR).read
      have hz : eU8.z = 1 := rfl
      rw [hz] at hrd
      rw [cond_false, hn, dec0, decide_eq_true (show (kk : Int) < (bs.length : Int) by omega), Bool.and_true, cond_true, e3, Option.bind_some, show ((kk : Nat) : Int).toNat = kk from rfl, e5 σ hR, Option.bind_some, hrd, Option.bind_some, bytes_all, Option.bind_some]
      refine again_find A h30 hi hsm hR hk0 hy K n (kk + 1) m _ (by omega) (by omega) ?_
      by_cases he : kk = k0
      · subst he
        rw [e1] at hy
        injection hy with hy
        subst hy
        exact .inl (by simp [oneOf])
      · exact .inr (by omega)
theorem again_loop {L s : Nat} {l fuses : Sl} {σ0 : Heap} {bs : List Sl} {xss : List (List UInt8)} {ks : List Int} (A : BytesArg σ0 l bs xss) (h30 : bs.length ≤ 30) (F : SlArg eI64 σ0 fuses ks) (hks : ks.length ≤ 30) (hL : 100 < L) :
    ∀ (k i m : Nat) (σ : Heap) (d : SD) (least : Int), i + k = bs.length → k < m → Run σ0 σ d (205 * i) → d.s = s → d.sto.down = false → d.sto.armed = false → d.sto.quota = 1048576 → Again xss d.sto least i → (∀ j, j < i → ∀ xs, xss[j]? = some xs → xs.length ≤ 200) →
      ∃ σ', law19_ShelfAgain_L8 (R := AVal × Heap) c_law19_ShelfAgain L m l fuses (some (s, 0)) least (i : Int) σ (fun v σ => some (v, σ)) = some (.bool true, σ')
  | k, i, 0, σ, d, _, _, h, _, _, _, _, _, _, _ => by omega
  | 0, i, m + 1, σ, d, least, hi, _, hR, hs, hd, ha, hq, hA, hsm => by
    rw [law19_ShelfAgain_L8_eq, A.n, decide_eq_false (by omega), cond_false]
    exact ⟨σ, rfl⟩
  | k + 1, i, m + 1, σ, d, least, hi, hm, hR, hs, hd, ha, hq, hA, hsm => by
    have hil : i < bs.length := by omega
    obtain ⟨b, q, xs, e1, e2, e3, e4, e5⟩ := bytes_at A h30 hil
    have p1 : c_law19_ShelfAgain.file_Store_Crash = w_file_Store_Crash := rfl
    have p2 : c_law19_ShelfAgain.law19_Get = w_law19_Get := rfl
    have p3 : c_law19_ShelfAgain.file_Store_Fuse = w_file_Store_Fuse := rfl
    have p4 : c_law19_ShelfAgain.shelf_Save = w_shelf_Save := rfl
    rw [law19_ShelfAgain_L8_eq, p1, p2, p3, p4, A.n, lt_true hil, cond_true, dec0, Bool.and_true, cond_true, e3, Option.bind_some, show ((i : Nat) : Int).toNat = i from rfl, e5 σ hR.ro, Option.bind_some]
    by_cases hx : xs.length > 200
    · rw [decide_eq_true (show (q.2.2 : Int) > 200 by omega), cond_true]
      exact ⟨σ, rfl⟩
    rw [decide_eq_false (show ¬ (q.2.2 : Int) > 200 by omega), cond_false]
    have hsm' : ∀ j, j ≤ i → ∀ ys, xss[j]? = some ys → ys.length ≤ 200 := fun j hj ys hys => by
      by_cases hji : j = i
      · subst hji
        rw [e1] at hys
        injection hys with hys
        subst hys
        omega
      · exact hsm j (by omega) ys hys
    generalize hX : IntKind.i64.wrap (BitVec.ofInt IntKind.i64.bits (i : Int) &&& BitVec.ofInt IntKind.i64.bits 3).toNat = X
    -- what comes behind the save
    have tail : ∀ (least' : Int) (σ3 : Heap) (d3 : SD), Run σ0 σ3 d3 (205 * (i + 1)) → d3.s = s → d3.sto.quota = 1048576 → Again xss d3.sto least' (i + 1) → least' ≤ (i : Int) →
        ∃ σ', (alloc σ3 [.int .i64 X, .int .i64 X] fun b11 σ12 => (w_file_Store_Crash (some (s, 0)) ⟨(some b11), 0, 2⟩ σ12).bind fun q13 => (w_law19_Get (some (s, 0)) (⟨#[102]⟩ : ByteArray) q13.2).bind fun q14 =>
          bif (!q14.1.There) then (
            bif (decide (least' ≥ 0)) then some (AVal.bool false, q14.2)
            else law19_ShelfAgain_L8 (R := AVal × Heap) c_law19_ShelfAgain L m l fuses (some (s, 0)) least' (IntKind.i64.wrap ((i : Int) + 1)) q14.2 (fun v σ => some (v, σ)))
          else law19_ShelfAgain_L23 (R := AVal × Heap) c_law19_ShelfAgain L m L l fuses (some (s, 0)) least' (i : Int) false (if 0 > least' then 0 else least') q14.1 q14.2 (fun v σ => some (v, σ))) = some (.bool true, σ') := fun least' σ3 d3 r1 r2 r3 r4 r5 => by
      obtain ⟨σ4, d4, c1, c2, c3, c4, _⟩ := r1.crashL [X, X] (by simp)
      have c1' : w_file_Store_Crash (some (d3.s, 0)) ⟨some σ3.length, 0, 2⟩ (σ3 ++ [.row [.int .i64 X, .int .i64 X] .rw]) = some ((), σ4) := c1
      rw [r2] at c1' c4
      have hd4 : d4.sto.down = false := by rw [c3]; rfl
      have ha4 : d4.sto.armed = false := by rw [c3]; rfl
      have hq4 : d4.sto.quota = 1048576 := by rw [c3]; exact r3
      have hA4 : Again xss d4.sto least' (i + 1) := r4.get (Nat.le_refl _) (by rw [c3]; exact crash_lasts r4.lasts)
      have hget := c2.get nameF
      rw [getS_sto, getT_eq hd4, c4] at hget
      obtain ⟨σE, z⟩ := again_loop (L := L) A h30 F hks hL k (i + 1) m σ4 d4 least' (by omega) (by omega) c2 c4 hd4 ha4 hq4 hA4 (fun j hj => hsm' j (by omega))
      unfold alloc
      dsimp only
      rw [c1', Option.bind_some]
      dsimp only
      rw [show (⟨#[102]⟩ : ByteArray) = nameF from rfl, hget, Option.bind_some]
      dsimp only
      cases hA4 with
      | none h hl =>
        rw [h, show (oneOf none).There = false from rfl, Bool.not_false, cond_true, decide_eq_false (show ¬ least' ≥ 0 by omega), cond_false, wrap_i64_succ i (by omega)]
        exact ⟨σE, z⟩
      | some k0 ys hy h hk hl hl' =>
        rw [h, show (oneOf (some ⟨nameF, ys, ys.length⟩)).There = true from rfl, Bool.not_true, cond_false]
        have hkk : (if 0 > least' then 0 else least') = ((least'.toNat : Nat) : Int) := by split <;> omega
        rw [hkk, again_find (fu0 := m) A h30 hil hsm' c2.ro (k0 := k0) (by omega) hy _ (i + 1 - least'.toNat) least'.toNat L false (by omega) (by omega) (.inr (by omega))]
        exact ⟨σE, z⟩
    -- the save
    have save : ∀ (σ1 : Heap) (d1 : SD), Run σ0 σ1 d1 (205 * i) → d1.s = s → d1.sto.down = false → d1.sto.quota = 1048576 → d1.sto.get nameF = d.sto.get nameF →
        ∃ σ', ((w_shelf_Save (some (s, 0)) (⟨#[102]⟩ : ByteArray) ⟨q.1, q.2.1, q.2.2⟩ σ1).bind fun q10 =>
          bif (q10.1 == 0) then (
            alloc q10.2 [.int .i64 X, .int .i64 X] fun b11 σ12 => (w_file_Store_Crash (some (s, 0)) ⟨(some b11), 0, 2⟩ σ12).bind fun q13 => (w_law19_Get (some (s, 0)) (⟨#[102]⟩ : ByteArray) q13.2).bind fun q14 =>
            bif (!q14.1.There) then (
              bif (decide ((i : Int) ≥ 0)) then some (AVal.bool false, q14.2)
              else law19_ShelfAgain_L8 (R := AVal × Heap) c_law19_ShelfAgain L m l fuses (some (s, 0)) (i : Int) (IntKind.i64.wrap ((i : Int) + 1)) q14.2 (fun v σ => some (v, σ)))
            else law19_ShelfAgain_L23 (R := AVal × Heap) c_law19_ShelfAgain L m L l fuses (some (s, 0)) (i : Int) (i : Int) false (if 0 > (i : Int) then 0 else (i : Int)) q14.1 q14.2 (fun v σ => some (v, σ)))
          else
            alloc q10.2 [.int .i64 X, .int .i64 X] fun b11 σ12 => (w_file_Store_Crash (some (s, 0)) ⟨(some b11), 0, 2⟩ σ12).bind fun q13 => (w_law19_Get (some (s, 0)) (⟨#[102]⟩ : ByteArray) q13.2).bind fun q14 =>
            bif (!q14.1.There) then (
              bif (decide (least ≥ 0)) then some (AVal.bool false, q14.2)
              else law19_ShelfAgain_L8 (R := AVal × Heap) c_law19_ShelfAgain L m l fuses (some (s, 0)) least (IntKind.i64.wrap ((i : Int) + 1)) q14.2 (fun v σ => some (v, σ)))
            else law19_ShelfAgain_L23 (R := AVal × Heap) c_law19_ShelfAgain L m L l fuses (some (s, 0)) least (i : Int) false (if 0 > least then 0 else least) q14.1 q14.2 (fun v σ => some (v, σ))) = some (.bool true, σ') := fun σ1 d1 r1 r2 r3 r4 r5 => by
      have hX1 := is_keep (e4.is (by omega)) e4.ro r1.ro
      obtain ⟨σ3, d3, c1, c2, c3, c4, _⟩ := r1.save (by omega) nameF hX1 ((e4.ro.keep r1.ro).out r1.st) (by omega)
      have hq3 : d3.sto.quota = 1048576 := by rw [c3, (save_all d1.sto r1.left nameF xs).2.2]; exact r4
      have hS := save_saved (t := d1.sto) r1.nod r3 nameF_ok nameF_ne xs
      have hA1 : Again xss d1.sto least i := hA.get (Nat.le_refl _) r5
      rw [r2] at c1 c4
      rw [show (⟨#[102]⟩ : ByteArray) = nameF from rfl, c1, Option.bind_some]
      dsimp only
      cases hS with
      | full hr hd' ha' hroom ht ho =>
        exfalso
        have h1 := r1.size
        unfold Sto.size at h1
        rw [Sto.used_eq, r4] at hroom
        omega
      | ok hr hd' ha' hroom hn ht ho =>
        rw [← c3] at hn
        rw [hr, beq_self_eq_true, cond_true]
        exact tail i σ3 d3 (c2.more (by omega)) c4 hq3 (.some i xs e1 hn (by omega) (by omega) (by omega)) (by omega)
      | falls hr ha' hd' ho =>
        rw [← c3] at ho
        rw [hr, show ((8 : Int) == 0) = false from rfl, cond_false]
        refine tail least σ3 d3 (c2.more (by omega)) c4 hq3 (hA1.get (by omega) (ho nameF (by decide))) ?_
        cases hA1 with
        | none _ hl => omega
        | some k0 _ _ _ hk hl _ => omega
    have hfn := F.n
    by_cases hif : i < ks.length
    · have hF := is_keep (F.is (by omega)) F.ro hR.ro
      obtain ⟨b7, g1, g2⟩ := hF.cell (List.getElem?_eq_getElem hif)
      have g3 : σ.cell? b7 (fuses.o + i * 1 + 0) = some (.int .i64 ks[i]) := g2 0 (by decide)
      rw [Nat.add_zero] at g3
      rw [hfn, lt_true hif, cond_true, Bool.and_true, cond_true, g1, Option.bind_some, g3, show int? (some (AVal.int .i64 ks[i])) .i64 = some ks[i] from rfl, Option.bind_some]
      obtain ⟨kk, k7, hkk⟩ := kindI_lt ks[i]
      obtain ⟨σ2, d2, b1, b2, b3, b4, _⟩ := hR.fuse (k := kindI ks[i]) (by omega)
      have b1' : w_file_Store_Fuse (some (d.s, 0)) (IntKind.i64.wrap (BitVec.ofInt IntKind.i64.bits ks[i] &&& BitVec.ofInt IntKind.i64.bits 7).toNat) σ = some ((), σ2) := b1
      rw [hs] at b1'
      rw [b1', Option.bind_some]
      exact save σ2 d2 b2 (b4.trans hs) (by rw [b3]; exact hd) (by rw [b3]; exact hq) (by rw [b3]; rfl)
    · rw [hfn, lt_false (by omega), cond_false]
      exact save σ d hR hs hd hq rfl
theorem law_ShelfAgain {σ0 : Heap} {l fuses : Sl} {bs : List Sl} {xss : List (List UInt8)} {ks : List Int} (A : BytesArg σ0 l bs xss) (F : SlArg eI64 σ0 fuses ks) : ∃ σ1, CallOK Try.prog T 8 [.slice l.b l.o l.n 1, .slice fuses.b fuses.o fuses.n 1] σ0 (.bool true) σ1 := by
  have p1 : c_law19_ShelfAgain.law19_fit = w_law19_fit := rfl
  have p3 : c_law19_ShelfAgain.file_New = w_file_New := rfl
  have hr := law19_ShelfAgain_eq (R := AVal × Heap) c_law19_ShelfAgain 101 l fuses σ0 fun v σ => some (v, σ)
  have hK := K_law19_ShelfAgain c_law19_ShelfAgain ok_file_New ok_file_Store_Crash ok_file_Store_Fuse ok_law19_fit ok_shelf_Save ok_law19_Get
  rw [p1, w_law19_fit, Option.bind_some, p3] at hr
  simp only [Bool.not_true, cond_false] at hr
  have hn := A.n
  have hf := F.n
  by_cases hx : bs.length > 30
  · rw [decide_eq_true (show (l.n : Int) > 30 by omega), cond_true] at hr
    exact ⟨σ0, call_ok ok hK hr⟩
  rw [decide_eq_false (show ¬ (l.n : Int) > 30 by omega), cond_false] at hr
  by_cases hy : ks.length > 30
  · rw [decide_eq_true (show (fuses.n : Int) > 30 by omega), cond_true] at hr
    exact ⟨σ0, call_ok ok hK hr⟩
  rw [decide_eq_false (show ¬ (fuses.n : Int) > 30 by omega), cond_false] at hr
  obtain ⟨σ1, d, a1, a2, a3, _⟩ := Run.new 1048576 (by decide) σ0
  rw [a1, Option.bind_some] at hr
  obtain ⟨σ3, r1⟩ := again_loop (L := 101) A (by omega) F (by omega) (by omega) bs.length 0 101 σ1 d (-1) (by omega) (by omega) (a2.more (by omega)) rfl (by rw [a3]; rfl) (by rw [a3]; rfl) (by rw [a3]; rfl) (.none (by rw [a3]; rfl) rfl) (fun j hj => by omega)
  exact ⟨σ3, call_ok ok hK (hr.trans r1)⟩
end Go.Abs.TC
