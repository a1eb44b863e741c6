/-
The law FileRuns, on the machine.
-/
import Derived.Test.YtjfdgccoblanlaaMConK
namespace Go.Abs.TC
open Go Go.Abs Go.Proofs

theorem mem_usedL {f : Fil} : ∀ {fs : List Fil}, f ∈ fs → f.data.length ≤ usedL fs
  | g :: r, h => by
    rw [usedL_cons]
    rcases List.mem_cons.1 h with rfl | h
    · omega
    · have := mem_usedL h; omega
theorem view_small {t : Sto} {l : List law04_one} (h : View t.fs l) (hG : t.Good) (hs : t.size ≤ 100000) : Small l ∧ usedO l ≤ 900000 ∧ l.length ≤ 90000 + 10000 := by
  unfold Sto.size at hs
  refine ⟨fun o ho => ?_, by rw [h.used]; omega, by rw [h.len]; omega⟩
  obtain ⟨f, hf, rfl⟩ := List.mem_map.1 (h.perm.mem_iff.1 ho)
  have h1 := hG.sure f hf
  have h2 := mem_usedL hf
  have h3 : (oneOf f).data.size = f.data.length := ba_size f.data
  have h4 : (oneOf f).sure = (f.sure : Int) := rfl
  rw [h3, h4]
  omega

/-! ### same -/
noncomputable def w_law04_same (s p : Pt) (σ : Heap) : Option (Bool × Heap) :=
  wOf (fun x : SD × MD => s = some (x.1.s, 0) ∧ p = some (x.2.p, 0) ∧ St σ .rw x.1 ∧ Md σ .rw x.2 ∧ Like x.1.sto x.2 ∧ x.1.sto.size ≤ 50000) fun _ => (true, σ)
theorem w_law04_same_eq {σ : Heap} {d : SD} {m : MD} (h1 : St σ .rw d) (h2 : Md σ .rw m) (h3 : Like d.sto m) (h4 : d.sto.size ≤ 50000) : w_law04_same (some (d.s, 0)) (some (m.p, 0)) σ = some (true, σ) :=
  wOf_eq (P := fun x : SD × MD => some (d.s, 0) = some (x.1.s, 0) ∧ some (m.p, 0) = some (x.2.p, 0) ∧ St σ .rw x.1 ∧ Md σ .rw x.2 ∧ Like x.1.sto x.2 ∧ x.1.sto.size ≤ 50000) (f := fun _ => (true, σ)) (x := (d, m)) ⟨rfl, rfl, h1, h2, h3, h4⟩ fun _ _ => rfl
noncomputable def c_law04_same : C_law04_same := { file_Store_Read := w_file_Store_Read, file_Store_Used := w_file_Store_Used, file_Store_Up := w_file_Store_Up, file_Store_Sure := w_file_Store_Sure, file_Store_Names := w_file_Store_Names, law04_model_used := w_law04_model_used }
theorem same_loop {L : Nat} {d : SD} {m : MD} {names : Sl} (hL : Like d.sto m) (hsz : d.sto.size ≤ 50000) :
    ∀ (k i f : Nat) (σ : Heap), i + k = m.l.length → k < f → St σ .rw d → Md σ .rw m → names.Is eStr σ d.sto.names →
      ∃ σ', law04_same_L5 (R := AVal × Heap) c_law04_same L f (some (d.s, 0)) (some (m.p, 0)) names (m.sl.b, m.sl.o, m.sl.n) (i : Int) σ (fun v σ => some (v, σ)) = some (.bool true, σ') ∧ σ <+: σ'
  | k, i, 0, σ, _, h, _, _, _ => by omega
  | 0, i, f + 1, σ, hi, _, hd, hm, hN => by
    rw [law04_same_L5_eq]
    dsimp only
    rw [hm.n, lt_false (by omega), cond_false]
    exact ⟨σ, rfl, List.prefix_rfl⟩
  | k + 1, i, f + 1, σ, hi, hf, hd, hm, hN => by
    have hil : i < m.l.length := by omega
    have hms := hm.sz
    have hgi := List.getElem?_eq_getElem hil
    generalize m.l[i] = o at hgi
    obtain ⟨g, hgm, rfl⟩ := List.mem_map.1 (hL.view.perm.mem_iff.1 (List.mem_of_getElem? hgi))
    have hG := hd.good
    have hget : d.sto.get g.name = some g := getK_of_mem hG.names hgm
    obtain ⟨b, b1, b2, b3, b4⟩ := one_cells (hm.is (mo := .rw) rdw) hgi
    have hnames : d.sto.names = m.l.map law04_one.name := hL.view.names.symm
    have hni : d.sto.names[i]? = some g.name := by rw [hnames, List.getElem?_map, hgi]; rfl
    have hnl : d.sto.names.length = m.l.length := by rw [hnames, List.length_map]
    obtain ⟨bn, n1, n2⟩ := str_cell hN hni
    have p1 : c_law04_same.file_Store_Read = w_file_Store_Read := rfl
    have p4 : c_law04_same.file_Store_Sure = w_file_Store_Sure := rfl
    have hsure : w_file_Store_Sure (some (d.s, 0)) g.name σ.frz = some (sureV d g.name, σ.frz) := rdRel_eq (m := .ro) (f := fun d => sureV d g.name) rdo hd.frz
    have hsv : sureV d g.name = (g.sure : Int) := by rw [sureV_sto]; unfold sureAt; rw [hget]
    rw [hsv] at hsure
    obtain ⟨e1, e2⟩ := readV_sto d g.name
    obtain ⟨l1, l2⟩ := readV_len (nm := g.name) hd
    have A := fresh_own eU8 σ (readV d g.name).2.1 (readV d g.name).2.2 l2
    have AP := fresh_pre eU8 σ (readV d g.name).2.1 (readV d g.name).2.2
    have hread := w_file_Store_Read_eq (m := .rw) rdw hd g.name
    rw [e1] at hread
    rw [e2] at hread A AP
    generalize fresh eU8 σ (readV d g.name).2.1 (readS d.sto g.name).2 = q at A AP hread
    have hl2 : (readS d.sto g.name).2.length ≤ 1000000 := by rw [← e2]; exact l1
    have AI := A.is (by omega)
    obtain ⟨c0, c1, c2, c3⟩ := (hm.pre AP).cells rdw
    obtain ⟨σ', r1, r2⟩ := same_loop (L := L) hL hsz k (i + 1) f q.2 (by omega) (by omega) (hd.pre AP) (hm.pre AP) (hN.pre AP)
    refine ⟨σ', ?_, AP.trans r2⟩
    have hr := AI.read
    have hz : eU8.z = 1 := rfl
    rw [hz] at hr
    rw [law04_same_L5_eq, p1, p4]
    dsimp only
    rw [hm.n, lt_true hil, cond_true, dec0, Bool.and_true, cond_true, b1, Option.bind_some, show ((i : Nat) : Int).toNat = i from rfl, b2, Option.bind_some, b3, Option.bind_some, b4, Option.bind_some, hN.n, hnl, lt_true hil, Bool.and_true, cond_true, n1, Option.bind_some, n2, show str? (some (AVal.str g.name)) = some g.name from rfl, Option.bind_some]
    rw [show (g.name.toList == (oneOf g).name.toList) = true from beq_self_eq_true _, Bool.not_true, cond_false, show (oneOf g).name = g.name from rfl, hsure, Option.bind_some]
    dsimp only
    rw [show (oneOf g).sure = (g.sure : Int) from rfl, bne_self_eq_false, cond_false, Heap.back_frz, hread, Option.bind_some, Option.bind_some]
    dsimp only
    rw [c3, Option.bind_some, hL.down]
    have hw := wrap_i64_succ i (by omega)
    rw [b1, hm.n] at r1
    have hAn := AI.n
    cases hdn : d.sto.down with
    | true =>
      have hrs : readS d.sto g.name = (8, []) := by unfold readS; rw [hdn]; rfl
      rw [hrs] at hAn ⊢
      rw [cond_true, bne_self_eq_false, cond_false, hAn]
      rw [show (((([] : List UInt8).length : Nat) : Int) != 0) = false from rfl, cond_false, Option.bind_some]
      dsimp only
      rw [c3, Option.bind_some, hL.down, hdn, Bool.not_true, cond_false, hw]
      exact r1
    | false =>
      have hrs : readS d.sto g.name = (0, g.data) := by unfold readS; rw [hdn, hget]; rfl
      rw [hrs] at hr ⊢
      rw [cond_false, Option.bind_some]
      dsimp only
      rw [c3, Option.bind_some, hL.down, hdn, Bool.not_false, cond_true, bne_self_eq_false, cond_false, hr, Option.bind_some, bytes_all, Option.bind_some, show ((⟨g.data.toArray⟩ : ByteArray).toList == (oneOf g).data.toList) = true from beq_self_eq_true _, Bool.not_true, cond_false, hw]
      exact r1
theorem ok_law04_same : Ok_law04_same w_law04_same := fun s p σ v σ' hw => by
  obtain ⟨⟨d, m⟩, ⟨rfl, rfl, hd, hm, hL, hsz⟩, e⟩ := wOf_some hw
  injection e with e1 e2
  subst e1; subst e2
  dsimp only at hd hm hL hsz ⊢
  have p1 : c_law04_same.file_Store_Names = w_file_Store_Names := rfl
  have p2 : c_law04_same.file_Store_Used = w_file_Store_Used := rfl
  have p3 : c_law04_same.file_Store_Up = w_file_Store_Up := rfl
  have p4 : c_law04_same.law04_model_used = w_law04_model_used := rfl
  have n1 := w_file_Store_Names_eq (m := .rw) rdw hd
  have hnd := d.names_sto
  have hfl : (namesD d).length = d.fs.length := by simp [namesD, sortN]
  have he : d.fs.isEmpty = true → namesD d = [] := fun he => List.eq_nil_of_length_eq_zero (by rw [hfl]; simpa using he)
  have A := fresh_own eStr σ d.fs.isEmpty (namesD d) he
  have AP := fresh_pre eStr σ d.fs.isEmpty (namesD d)
  have hr := law04_same_eq (R := AVal × Heap) c_law04_same (m.l.length + 1) (some (d.s, 0)) (some (m.p, 0)) σ fun v σ => some (v, σ)
  rw [p1, n1, Option.bind_some, p2, p3, p4] at hr
  rw [← hnd] at A AP hr
  have hnl := names_len d.sto
  have hszz := hsz
  unfold Sto.size at hszz
  generalize fresh eStr σ d.fs.isEmpty d.sto.names = q at A AP hr
  have AI := A.is (by omega)
  have hd1 := hd.pre AP
  have hm1 := hm.pre AP
  obtain ⟨s1, s2, s3⟩ := view_small hL.view hd.good (by omega)
  obtain ⟨c0, c1, c2, c3⟩ := hm1.cells rdw
  have hlen : m.l.length = d.sto.fs.length := hL.view.len
  have u1 := w_file_Store_Used_eq (m := .ro) rdo hd1.frz
  have u2 := w_law04_model_used_eq (mo := .rw) rdw hm1 (by omega)
  have hus : (usedF d.fs : Int) = (usedO m.l : Int) := by rw [← d.used_sto, hL.view.used, Sto.used_eq]
  have up : w_file_Store_Up (some (d.s, 0)) q.2.frz = some (!d.down, q.2.frz) := rdRel_eq (m := .ro) (f := fun d => !d.down) rdo hd1.frz
  rw [Option.bind_some] at hr
  dsimp only at hr
  rw [c0, Option.bind_some] at hr
  dsimp only at hr
  rw [AI.n, hm1.n, hnl, ← hlen, bne_self_eq_false, cond_false, u1, Option.bind_some] at hr
  dsimp only at hr
  rw [Heap.back_frz, u2, Option.bind_some] at hr
  dsimp only at hr
  rw [hus, bne_self_eq_false, cond_false, up, Option.bind_some, Option.bind_some] at hr
  dsimp only at hr
  rw [Heap.back_frz, c3, Option.bind_some, hL.down, show d.sto.down = d.down from rfl, show ((!d.down) == d.down) = false by cases d.down <;> rfl, cond_false, Option.bind_some] at hr
  dsimp only at hr
  rw [c0, Option.bind_some] at hr
  obtain ⟨σ1, r1, r2⟩ := same_loop (L := m.l.length + 1) (names := q.1) hL hsz m.l.length 0 (m.l.length + 1) q.2 (by omega) (by omega) hd1 hm1 AI
  have hp := AP.trans r2
  exact call_gc0 (call_ok ok (K_law04_same c_law04_same ok_file_Store_Read ok_file_Store_Used ok_file_Store_Up ok_file_Store_Sure ok_file_Store_Names ok_law04_model_used) (hr.trans r1)) (fun b hb => get_pre hp hb) trivial

/-! ### The law -/
noncomputable def c_law04_FileRuns : C_law04_FileRuns := { law04_fit := w_law04_fit, law04_short := w_law04_short, file_New := w_file_New, law04_do := w_law04_do, law04_model_do := w_law04_model_do, law04_same := w_law04_same, file_Store_Sure := w_file_Store_Sure }
theorem ro_mfr {σ σ' : Heap} {m m' : MD} (k : MFr σ m σ' m') (h : Md σ .rw m) : RoKeep σ σ' := fun b cs hb => by
  rw [k.at_ b (List.getElem?_eq_some_iff.1 hb).1 fun hm => ?_]
  · exact hb
  · rw [MD.foot, List.mem_cons] at hm
    rcases hm with rfl | hm
    · rw [h.hd] at hb; cases hb
    · rcases h.at_ with ⟨g1, _⟩ | ⟨c, g1, _, g2⟩
      · rw [g1] at hm; simp at hm
      · rw [g1] at hm; simp at hm; subst hm; rw [g2] at hb; cases hb
theorem runs_loop {L s p : Nat} {calls : Sl} {σ0 : Heap} {cs : List law04_Call} {ps : List PCall} (hC : CallsIs σ0 calls cs ps) :
    ∀ (k i f : Nat) (σ : Heap) (d : SD) (m : MD), i + k = cs.length → k < f → Run σ0 σ d (101 * i) → d.s = s → Md σ .rw m → m.p = p → Like d.sto m → (∀ b ∈ d.foot, b ∉ m.foot) →
      ∃ σ', law04_FileRuns_L8 (R := AVal × Heap) c_law04_FileRuns L f (some (s, 0)) p calls (i : Int) σ (fun v σ => some (v, σ)) = some (.bool true, σ')
  | k, i, 0, σ, d, m, _, h, _, _, _, _, _, _ => by omega
  | 0, i, f + 1, σ, d, m, hi, _, hR, hs, hm, hp, hL, hdis => by
    have p1 : c_law04_FileRuns.file_Store_Sure = w_file_Store_Sure := rfl
    have hsure : w_file_Store_Sure (some (d.s, 0)) (⟨#[126, 126, 126, 126, 126, 126, 126, 126, 126, 126, 126, 126, 126, 126, 126]⟩ : ByteArray) σ = some (sureV d (⟨#[126, 126, 126, 126, 126, 126, 126, 126, 126, 126, 126, 126, 126, 126, 126]⟩ : ByteArray), σ) := rdRel_eq (m := .rw) (f := fun d => sureV d _) rdw hR.st
    have hz : sureV d (⟨#[126, 126, 126, 126, 126, 126, 126, 126, 126, 126, 126, 126, 126, 126, 126]⟩ : ByteArray) = 0 := by
      unfold sureV
      cases hg : d.get (⟨#[126, 126, 126, 126, 126, 126, 126, 126, 126, 126, 126, 126, 126, 126, 126]⟩ : ByteArray) with
      | none => rfl
      | some g =>
        obtain ⟨g1, g2⟩ := getK_mem hg
        have := (hR.st.nok g g1).2
        rw [g2] at this
        exact absurd this (by decide)
    rw [hs, hz] at hsure
    rw [law04_FileRuns_L8_eq, p1, hC.is.n, lt_false (by omega), cond_false, hsure, Option.bind_some]
    exact ⟨σ, rfl⟩
  | k + 1, i, f + 1, σ, d, m, hi, hf, hR, hs, hm, hp, hL, hdis => by
    have hil : i < cs.length := by omega
    have hl := hC.few
    obtain ⟨ck, cn, cna, cto, cb, co, cl, xs, b, e1, e2, e3, e4, e5⟩ := at_call hC hil
    obtain ⟨f0, f1, f2, f3, f4⟩ := e5 σ hR.ro
    have p1 : c_law04_FileRuns.law04_do = w_law04_do := rfl
    have p2 : c_law04_FileRuns.law04_model_do = w_law04_model_do := rfl
    have p3 : c_law04_FileRuns.law04_same = w_law04_same := rfl
    have hsz := hR.size
    obtain ⟨s1, s2, s3⟩ := view_small hL.view hR.st.good (by omega)
    have hlen : m.l.length = d.sto.fs.length := hL.view.len
    have hleft : -1 ≤ m.left ∧ m.left ≤ 9223372036854775807 := by
      have h1 := hL.left
      by_cases ha : d.sto.armed = true
      · rw [if_pos ha] at h1
        have := hR.left ha
        omega
      · rw [if_neg ha] at h1; omega
    obtain ⟨σ1, m1, a1, a2, a3, a4⟩ := w_law04_model_do_ex hm s1 s2 (by unfold Sto.size at hsz; omega) hleft (e2.keep hR.ro)
    have hR1 : Run σ0 σ1 d (101 * i) := ⟨hR.st.same fun b hb => a3.at_ b (hR.st.foot_lt hb) (hdis b hb), hR.left, hR.size, hR.ro.trans (ro_mfr a3 hm)⟩
    have hdis1 : ∀ b ∈ d.foot, b ∉ m1.foot := fun b hb hm1 => by
      rcases a3.foot b hm1 with h | h
      · exact hdis b hb h
      · have := hR.st.foot_lt hb; omega
    obtain ⟨σ2, d2, b1, b2, b3, b4, b5⟩ := hR1.do_ (by omega) e2
    have hm2 : Md σ2 .rw m1 := a2.same fun b hb => b5.at_ b (a2.foot_lt hb) (fun h => hdis1 b h hb)
    have hdis2 : ∀ b ∈ d2.foot, b ∉ m1.foot := fun b hb hm1 => by
      rcases b5.foot b hb with h | h
      · exact hdis1 b h hm1
      · have := a2.foot_lt hm1; omega
    have hres := like_do hL hR.st.good hR.left ⟨ck, cn, cna, cto, xs⟩
    have hL2 : Like d2.sto m1 := by
      rw [b3, a4]
      exact ⟨hres.view, hL.q.trans (by rw [hres.q]), hres.left, hres.down⟩
    have b2' := b2.more (m := 101 * (i + 1)) (by omega)
    have hsame := w_law04_same_eq b2.st hm2 hL2 (by have := b2.size; omega)
    obtain ⟨σE, z⟩ := runs_loop (L := L) hC k (i + 1) f σ2 d2 m1 (by omega) (by omega) b2' (b4.trans hs) hm2 (a3.p.trans hp) hL2 hdis2
    rw [b4, hs, a3.p, hp] at hsame
    rw [hs] at b1
    rw [hp] at a1
    rw [law04_FileRuns_L8_eq, p1, p2, p3, hC.is.n, lt_true hil, cond_true, dec0, Bool.and_true, cond_true, e4, Option.bind_some, show ((i : Nat) : Int).toNat = i from rfl, f0, Option.bind_some, f1, Option.bind_some, f2, Option.bind_some, f3, Option.bind_some, f4, Option.bind_some]
    dsimp only
    rw [a1, Option.bind_some]
    dsimp only
    rw [b1, Option.bind_some]
    dsimp only
    rw [hres.code, bne_self_eq_false, cond_false, hsame, Option.bind_some]
    dsimp only
    rw [Bool.not_true, cond_false, wrap_i64_succ i (by omega)]
    exact ⟨σE, z⟩
theorem law_FileRuns {σ0 : Heap} {q : Int} (hq : q ≤ 9223372036854775807) {calls : Sl} {cs : List law04_Call} {ps : List PCall} (hA : CallsArg σ0 calls cs ps) : ∃ σ1, CallOK Try.prog T 6 [.int .i64 q, .slice calls.b calls.o calls.n 5] σ0 (.bool true) σ1 := by
  have p1 : c_law04_FileRuns.law04_fit = w_law04_fit := rfl
  have p2 : c_law04_FileRuns.law04_short = w_law04_short := rfl
  have p3 : c_law04_FileRuns.file_New = w_file_New := rfl
  have hr := law04_FileRuns_eq (R := AVal × Heap) c_law04_FileRuns (cs.length + 1) q calls σ0 fun v σ => some (v, σ)
  have hK := K_law04_FileRuns c_law04_FileRuns ok_law04_fit ok_law04_short ok_file_New ok_law04_do ok_law04_model_do ok_law04_same ok_file_Store_Sure
  rw [p1, w_law04_fit, Option.bind_some, p2, p3] at hr
  simp only [Bool.not_true, cond_false] at hr
  rcases w_law04_short_eq hA with h | ⟨h, hC, _⟩
  · rw [h, Option.bind_some] at hr
    exact ⟨σ0, call_ok ok hK hr⟩
  rw [h, Option.bind_some] at hr
  dsimp only at hr
  rw [show (!true) = false from rfl, cond_false] at hr
  obtain ⟨σ1, d, a1, a2, a3, _⟩ := Run.new q hq σ0
  rw [a1, Option.bind_some] at hr
  dsimp only at hr
  have hqq : (if 0 > q then 0 else q) = (q.toNat : Int) := by split <;> omega
  rw [hqq] at hr
  unfold alloc at hr
  have hp := pre_push σ1 (Blk.row [.slice none 0 0 3, .int .i64 (q.toNat : Int), .int .i64 (-1), .bool false] .rw)
  have hM : Md (σ1 ++ [Blk.row [.slice none 0 0 3, .int .i64 (q.toNat : Int), .int .i64 (-1), .bool false] .rw]) .rw ⟨σ1.length, ⟨none, 0, 0⟩, [], (q.toNat : Int), -1, false⟩ :=
    ⟨get_push .., rfl, rfl, .inl ⟨rfl, rfl⟩, Nat.zero_le _⟩
  have hLk : Like d.sto ⟨σ1.length, ⟨none, 0, 0⟩, [], (q.toNat : Int), -1, false⟩ := by
    rw [a3]
    exact ⟨⟨List.Perm.refl _, List.Pairwise.nil⟩, rfl, rfl, rfl⟩
  obtain ⟨σ3, r1⟩ := runs_loop (L := cs.length + 1) hC cs.length 0 (cs.length + 1) _ d _ (by omega) (by omega) ((a2.more (by omega)).pre hp) rfl hM rfl hLk (fun b hb hm => by
    have := a2.st.foot_lt hb
    simp [MD.foot] at hm
    omega)
  exact ⟨σ3, call_ok ok hK (hr.trans r1)⟩
end Go.Abs.TC
