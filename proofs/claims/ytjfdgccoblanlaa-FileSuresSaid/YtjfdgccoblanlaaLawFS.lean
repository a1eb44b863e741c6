/-
The law FileSures, on the machine.
-/
import Derived.Test.YtjfdgccoblanlaaMConJ
namespace Go.Abs.TC
open Go Go.Abs Go.Proofs

/-! ### What is kept of a file -/
theorem get_put (t : Sto) (f : Fil) (m : ByteArray) : (t.put f).get m = if f.name = m then some f else t.get m := getK_put f m t.fs
theorem get_change (t : Sto) (m : ByteArray) : t.change.2.get m = t.get m := by
  unfold Sto.get
  rw [(change_get t).1]
theorem append_get {t : Sto} {n m : ByteArray} {xs : List UInt8} {f : Fil} (h : t.get m = some f) : ∃ f', (t.append n xs).2.get m = some f' ∧ f.data <+: f'.data ∧ f'.sure = f.sure := by
  have h0 : ∃ f', t.get m = some f' ∧ f.data <+: f'.data ∧ f'.sure = f.sure := ⟨f, h, List.prefix_refl _, rfl⟩
  unfold Sto.append
  split
  · exact h0
  split
  · exact h0
  split
  · exact h0
  split
  · dsimp only
    rw [get_put, get_change]
    cases hg : t.get n with
    | none =>
      dsimp only
      by_cases e : n = m
      · subst e; rw [hg] at h; cases h
      · rw [if_neg e]; exact h0
    | some f1 =>
      dsimp only
      have hn : f1.name = n := (getK_mem hg).2
      by_cases e : f1.name = m
      · rw [if_pos e]
        have e' : n = m := hn.symm.trans e
        subst e'
        rw [hg] at h
        injection h with h
        subst h
        exact ⟨_, rfl, List.prefix_append _ _, rfl⟩
      · rw [if_neg e]; exact h0
  · rw [get_change]; exact h0
theorem crash1_get {P : Fil → Prop} (hP : ∀ more f, P f → P (crashF more f)) {m : ByteArray} (more : Nat) (n : ByteArray) {fs : List Fil} {f : Fil} (h : getK Fil.name m fs = some f) (hf : P f) : ∃ f', getK Fil.name m (crash1 more n fs) = some f' ∧ P f' := by
  unfold crash1
  cases hg : getK Fil.name n fs with
  | none => exact ⟨f, h, hf⟩
  | some g =>
    dsimp only
    rw [getK_put]
    have hn : g.name = n := (getK_mem hg).2
    by_cases e : (crashF more g).name = m
    · rw [if_pos e]
      have e' : n = m := hn.symm.trans e
      subst e'
      rw [hg] at h
      injection h with h
      subst h
      exact ⟨_, rfl, hP _ _ hf⟩
    · rw [if_neg e]; exact ⟨f, h, hf⟩
theorem crashGo_get {P : Fil → Prop} (hP : ∀ more f, P f → P (crashF more f)) (ks : List Int) {m : ByteArray} : ∀ (ns : List ByteArray) (i : Nat) {fs : List Fil} {f : Fil}, getK Fil.name m fs = some f → P f → ∃ f', getK Fil.name m (crashGo ks ns i fs) = some f' ∧ P f'
  | [], _, fs, f, h, hf => ⟨f, h, hf⟩
  | n :: ns, i, fs, f, h, hf => by
    obtain ⟨f1, h1, h2⟩ := crash1_get hP (keepAt ks i) n h hf
    exact crashGo_get hP ks ns (i + 1) h1 h2
theorem crash_get {P : Fil → Prop} (hP : ∀ more f, P f → P (crashF more f)) {t : Sto} (ks : List Int) {m : ByteArray} {f : Fil} (h : t.get m = some f) (hf : P f) : ∃ f', (t.crash ks).get m = some f' ∧ P f' :=
  crashGo_get hP ks t.names 0 h hf
/-- These bytes are sure. -/
def Sured (wd : List UInt8) (f : Fil) : Prop := wd <+: f.data ∧ wd.length ≤ f.sure
theorem sured_crash (wd : List UInt8) (more : Nat) (f : Fil) (h : Sured wd f) : Sured wd (crashF more f) := by
  obtain ⟨h1, h2⟩ := h
  have h3 : wd.length ≤ crashN more f := by unfold crashN; omega
  exact ⟨List.prefix_take_iff.2 ⟨h1, h3⟩, h3⟩
theorem doC_sured {t : Sto} {p : PCall} {m : ByteArray} {wd : List UInt8} (hk : kindI p.Kind < 2 ∨ kindI p.Kind > 5) (h : ∃ f, t.get m = some f ∧ Sured wd f) : ∃ f, (t.doC p).2.get m = some f ∧ Sured wd f := by
  obtain ⟨f, h1, h2⟩ := h
  unfold Sto.doC
  rw [if_neg (by omega), if_neg (by omega), if_neg (by omega), if_neg (by omega)]
  split
  · exact ⟨f, h1, h2⟩
  split
  · exact crash_get (sured_crash wd) _ h1 h2
  obtain ⟨f', a1, a2, a3⟩ := append_get (n := p.Name) (xs := p.Data) h1
  exact ⟨f', a1, h2.1.trans a2, by rw [a3]; exact h2.2⟩
def sureN : ByteArray := ⟨#[115, 117, 114, 101]⟩
theorem sureN_ok : nameOk sureN = true := by decide
/-- A free store takes it. -/
theorem append_free {t : Sto} {n : ByteArray} {xs : List UInt8} (hd : t.down = false) (ha : t.armed = false) (hn : nameOk n = true) (hq : t.used + xs.length ≤ t.quota) :
    ∃ t' f, t.append n xs = (0, t') ∧ t'.down = false ∧ t'.armed = false ∧ t'.get n = some f ∧ xs <:+ f.data := by
  have hc : t.change = (0, t) := by unfold Sto.change; rw [if_neg (by rw [ha]; simp), if_neg (by rw [ha]; simp)]
  unfold Sto.append
  rw [if_neg (by rw [hd]; decide), if_neg (by rw [hn]; decide), if_neg (by omega), hc, if_pos rfl]
  cases hg : t.get n with
  | none => exact ⟨_, _, rfl, hd, ha, by rw [get_put]; exact if_pos rfl, List.suffix_refl _⟩
  | some f => exact ⟨_, _, rfl, hd, ha, by rw [get_put]; exact if_pos (getK_mem hg).2, List.suffix_append _ _⟩
theorem sync_free {t : Sto} {n : ByteArray} {f : Fil} (hd : t.down = false) (ha : t.armed = false) (hg : t.get n = some f) :
    ∃ t' f', t.sync n = (0, t') ∧ t'.down = false ∧ t'.get n = some f' ∧ f'.data = f.data ∧ f'.sure = f.data.length := by
  have hc : t.change = (0, t) := by unfold Sto.change; rw [if_neg (by rw [ha]; simp), if_neg (by rw [ha]; simp)]
  unfold Sto.sync
  rw [onFile_yes hd hg (by rw [hc]), hc]
  exact ⟨_, { f with sure := f.data.length }, rfl, hd, by rw [get_put]; exact if_pos (getK_mem hg).2, rfl, rfl⟩

theorem mem_used {f : Fil} : ∀ {fs : List Fil}, f ∈ fs → f.data.length ≤ usedL fs
  | g :: r, h => by
    rw [usedL_cons]
    rcases List.mem_cons.1 h with rfl | h
    · omega
    · have := mem_used h; omega

/-! ### The walk -/
noncomputable def c_law04_FileSures : C_law04_FileSures := { law04_fit := w_law04_fit, law04_short := w_law04_short, file_New := w_file_New, law04_do := w_law04_do, file_Store_Crash := w_file_Store_Crash, file_Store_Append := w_file_Store_Append, file_Store_Sync := w_file_Store_Sync, file_Store_Read := w_file_Store_Read, law04_Call_kind := w_law04_Call_kind }
theorem bytes_beq (xs ys : List UInt8) : ((⟨xs.toArray⟩ : ByteArray).toList == (⟨ys.toArray⟩ : ByteArray).toList) = decide (xs = ys) := by
  rw [ba_beq, decide_eq_decide]
  constructor
  · intro h
    injection h with h
    exact congrArg Array.toList h
  · intro h
    rw [h]
theorem sures_more {L s : Nat} {data was more : Sl} {σ0 : Heap} {cs : List law04_Call} {ps : List PCall} (hC : CallsIs σ0 more cs ps) {xs wd : List UInt8} (hX : data.Is eU8 σ0 xs) (hXr : Ro σ0 data) (hxw : xs <:+ wd) (hwl : wd.length ≤ 100000) :
    ∀ (k i m : Nat) (σ : Heap) (d : SD), i + k = cs.length → k < m → Run σ0 σ d (20000 + 101 * i) → d.s = s → was.Is eU8 σ wd → (∀ c, was.b = some c → c ∉ d.foot) → (∃ f, d.sto.get sureN = some f ∧ Sured wd f) →
      ∃ σ', law04_FileSures_L16 (R := AVal × Heap) c_law04_FileSures L m data (some (s, 0)) was more (i : Int) σ (fun v σ => some (v, σ)) = some (.bool true, σ')
  | k, i, 0, σ, d, _, h, _, _, _, _, _ => by omega
  | 0, i, m + 1, σ, d, hi, _, hR, hs, hW, hWo, hS => by
    have p5 : c_law04_FileSures.file_Store_Crash = w_file_Store_Crash := rfl
    have p6 : c_law04_FileSures.file_Store_Read = w_file_Store_Read := rfl
    rw [law04_FileSures_L16_eq, p5, p6, hC.is.n, lt_false (by omega), cond_false]
    obtain ⟨σ1, d1, a1, a2, a3, a4, a5⟩ := hR.crash0
    obtain ⟨w1, w2⟩ := is_fr hW a5 hWo
    obtain ⟨f, f1, f2⟩ := hS
    obtain ⟨f', g1, g2⟩ := crash_get (sured_crash wd) (t := d.sto) [] f1 f2
    obtain ⟨sl, σ2, b1, b2, b3, b4, _⟩ := a2.read sureN
    have hread : readS d1.sto sureN = (0, f'.data) := by
      rw [a3]
      unfold readS
      rw [g1]
      rfl
    rw [hread] at b1 b2
    have W2 := w1.pre b4
    have X2 := is_keep hX hXr b3.ro
    have hpre := g2.1
    have hle := hpre.length_le
    have hxl := hxw.length_le
    rw [a4, hs] at b1
    rw [hs] at a1
    unfold sureN at b1
    rw [a1, Option.bind_some]
    dsimp only
    rw [b1, Option.bind_some]
    dsimp only
    have hb := W2.n
    have hd := X2.n
    have hs2 := b2.n
    rw [beq_self_eq_true, cond_true, hb, hd, hs2, decide_eq_true (show (wd.length : Int) ≥ (xs.length : Int) by omega), cond_true, decide_eq_true (show (f'.data.length : Int) ≥ (wd.length : Int) by omega), cond_true, dec0, Bool.and_true, cond_true]
    have r1 := b2.readn hle
    have r2 := W2.read
    have r3 := X2.read
    have e1 : f'.data.take wd.length = wd := (List.prefix_iff_eq_take.1 hpre).symm
    rw [e1] at r1
    rw [hb] at r2
    rw [hd] at r3
    have hz : eU8.z = 1 := rfl
    rw [hz] at r1 r2 r3
    rw [r1, Option.bind_some, bytes_all, Option.bind_some, r2, Option.bind_some, bytes_all, Option.bind_some, beq_self_eq_true, cond_true]
    have e2 : IntKind.i64.wrap ((wd.length : Int) - (xs.length : Int)) = ((wd.length - xs.length : Nat) : Int) := by rw [wrap_i64_of (by omega) (by omega)]; omega
    have r4 := (W2.drop (k := wd.length - xs.length) (by omega)).read
    have e3 : wd.drop (wd.length - xs.length) = xs := (List.suffix_iff_eq_drop.1 hxw).symm
    rw [e3, hb, hz] at r4
    have e4 : ((wd.length - xs.length : Nat) : Int).toNat = wd.length - xs.length := rfl
    rw [e2, dec0, e4, decide_eq_true (show ((wd.length - xs.length : Nat) : Int) ≤ (wd.length : Int) by omega), decide_eq_true (show (wd.length : Int) ≤ (wd.length : Int) by omega), show (true && true && true) = true from rfl, cond_true, r4, Option.bind_some, bytes_all, Option.bind_some, r3, Option.bind_some, bytes_all, Option.bind_some, beq_self_eq_true]
    exact ⟨σ2, rfl⟩
  | k + 1, i, m + 1, σ, d, hi, hm, hR, hs, hW, hWo, hS => by
    have hil : i < cs.length := by omega
    have hl := hC.few
    obtain ⟨ck, cn, cna, cto, cb, co, cl, ys, b, e1, e2, e3, e4, e5⟩ := at_call hC hil
    obtain ⟨f0, f1, f2, f3, f4⟩ := e5 σ hR.ro
    have p4 : c_law04_FileSures.law04_do = w_law04_do := rfl
    have p7 : c_law04_FileSures.law04_Call_kind = w_law04_Call_kind := rfl
    rw [law04_FileSures_L16_eq, p4, p7, hC.is.n, lt_true hil, cond_true, dec0, Bool.and_true, cond_true, e4, Option.bind_some, show ((i : Nat) : Int).toNat = i from rfl, f0, Option.bind_some, f1, Option.bind_some, f2, Option.bind_some, f3, Option.bind_some, f4, Option.bind_some]
    dsimp only
    rw [w_law04_Call_kind, Option.bind_some]
    dsimp only
    have hw := wrap_i64_succ i (by omega)
    have step : kindI ck < 2 ∨ kindI ck > 5 → ∃ σ1 σE, w_law04_do (some (s, 0)) ⟨ck, cn, cna, cto, ⟨cb, co, cl⟩⟩ σ = some ((d.sto.doC ⟨ck, cn, cna, cto, ys⟩).1, σ1) ∧
        law04_FileSures_L16 (R := AVal × Heap) c_law04_FileSures L m data (some (s, 0)) was more ((i + 1 : Nat) : Int) σ1 (fun v σ => some (v, σ)) = some (.bool true, σE) := fun hk => by
      obtain ⟨σ1, d1, a1, a2, a3, a4, a5⟩ := hR.do_ (by omega) e2
      obtain ⟨w1, w2⟩ := is_fr hW a5 hWo
      rw [hs] at a1 a4
      obtain ⟨σE, r⟩ := sures_more (L := L) hC hX hXr hxw hwl k (i + 1) m σ1 d1 (by omega) (by omega) (a2.more (by omega)) a4 w1 w2 (by rw [a3]; exact doC_sured hk hS)
      exact ⟨σ1, σE, a1, r⟩
    by_cases hk : kindI ck < 2
    · obtain ⟨σ1, σE, r1, r2⟩ := step (.inl hk)
      rw [decide_eq_true hk, cond_true, r1, Option.bind_some, hw]
      exact ⟨σE, r2⟩
    · rw [decide_eq_false hk, cond_false]
      by_cases hk' : kindI ck > 5
      · obtain ⟨σ1, σE, r1, r2⟩ := step (.inr hk')
        rw [decide_eq_true hk', cond_true, r1, Option.bind_some, hw]
        exact ⟨σE, r2⟩
      · rw [decide_eq_false hk', cond_false, hw]
        exact sures_more hC hX hXr hxw hwl k (i + 1) m σ d (by omega) (by omega) (hR.more (by omega)) hs hW hWo hS
theorem sures_mid {L s : Nat} {data more calls : Sl} {σ0 : Heap} {cs1 cs : List law04_Call} {ps1 ps : List PCall} (hC1 : CallsIs σ0 calls cs1 ps1) (hC : CallsIs σ0 more cs ps) {xs : List UInt8} (hX : data.Is eU8 σ0 xs) (hXr : Ro σ0 data) (hxl : xs.length ≤ 200) (hL : cs.length < L) :
    ∀ (k i m : Nat) (σ : Heap) (d : SD), i + k = cs1.length → k < m → Run σ0 σ d (101 * i) → d.s = s → d.sto.quota = 1048576 →
      ∃ σ', law04_FileSures_L7 (R := AVal × Heap) c_law04_FileSures L m data more (some (s, 0)) calls (i : Int) σ (fun v σ => some (v, σ)) = some (.bool true, σ')
  | k, i, 0, σ, d, _, h, _, _, _ => by omega
  | 0, i, m + 1, σ, d, hi, _, hR, hs, hQ => by
    have p5 : c_law04_FileSures.file_Store_Crash = w_file_Store_Crash := rfl
    have p6 : c_law04_FileSures.file_Store_Read = w_file_Store_Read := rfl
    have p7 : c_law04_FileSures.file_Store_Append = w_file_Store_Append := rfl
    have p8 : c_law04_FileSures.file_Store_Sync = w_file_Store_Sync := rfl
    have hl := hC1.few
    rw [law04_FileSures_L7_eq, p5, p6, p7, p8, hC1.is.n, lt_false (by omega), cond_false]
    obtain ⟨σ1, d1, a1, a2, a3, a4, _⟩ := hR.crash0
    obtain ⟨σ2, d2, b1, b2, b3, b4, _⟩ := a2.append (by omega) (nm := sureN) (is_keep hX hXr a2.ro) ((hXr.keep a2.ro).out a2.st) (by omega)
    have hu : d1.sto.used + xs.length ≤ d1.sto.quota := by
      have h1 := a2.size
      have h2 : d1.sto.quota = 1048576 := by rw [a3]; exact hQ
      unfold Sto.size at h1
      rw [Sto.used_eq, h2]
      omega
    obtain ⟨t2, f2, c1, c2, c3, c4, c5⟩ := append_free (t := d1.sto) (n := sureN) (xs := xs) (by rw [a3]; rfl) (by rw [a3]; rfl) sureN_ok hu
    rw [c1] at b1 b3
    dsimp only at b1 b3
    obtain ⟨σ3, d3, e1, e2, e3, e4, _⟩ := b2.sync sureN
    obtain ⟨t3, f3, g1, g2, g3, g4, g5⟩ := sync_free (t := t2) c2 c3 c4
    rw [b3, g1] at e1 e3
    dsimp only at e1 e3
    obtain ⟨sl, σ4, r1, r2, r3, r4, r5, _⟩ := e2.read sureN
    have hread : readS d3.sto sureN = (0, f3.data) := by
      rw [e3]
      unfold readS
      rw [g2, g3]
      rfl
    rw [hread] at r1 r2
    have hfl : f3.data.length ≤ 100000 := by
      have h1 := r2.n
      have h2 := e2.size
      rw [e3] at h2
      have h3 := mem_used (getK_mem g3).1
      unfold Sto.size at h2
      omega
    obtain ⟨σ5, z⟩ := sures_more (L := L) (was := sl) hC hX hXr (by rw [g4]; exact c5) hfl cs.length 0 L σ4 d3 (by omega) hL (r3.more (by omega)) (by rw [e4, b4, a4, hs]) r2 r5 ⟨f3, by rw [e3]; exact g3, List.prefix_refl _, by rw [g5, g4]; exact Nat.le_refl _⟩
    rw [e4, b4, a4, hs] at r1
    rw [b4, a4, hs] at e1
    rw [a4, hs] at b1
    rw [hs] at a1
    unfold sureN at b1 e1 r1
    rw [a1, Option.bind_some]
    dsimp only
    rw [b1, Option.bind_some]
    dsimp only
    rw [bne_self_eq_false, cond_false, e1, Option.bind_some]
    dsimp only
    rw [bne_self_eq_false, cond_false, r1, Option.bind_some]
    exact ⟨σ5, z⟩
  | k + 1, i, m + 1, σ, d, hi, hm, hR, hs, hQ => by
    have hil : i < cs1.length := by omega
    have hl := hC1.few
    obtain ⟨ck, cn, cna, cto, cb, co, cl, ys, b, e1, e2, e3, e4, e5⟩ := at_call hC1 hil
    obtain ⟨f0, f1, f2, f3, f4⟩ := e5 σ hR.ro
    have p4 : c_law04_FileSures.law04_do = w_law04_do := rfl
    rw [law04_FileSures_L7_eq, p4, hC1.is.n, lt_true hil, cond_true, dec0, Bool.and_true, cond_true, e4, Option.bind_some, show ((i : Nat) : Int).toNat = i from rfl, f0, Option.bind_some, f1, Option.bind_some, f2, Option.bind_some, f3, Option.bind_some, f4, Option.bind_some]
    dsimp only
    obtain ⟨σ1, d1, a1, a2, a3, a4, _⟩ := hR.do_ (by omega) e2
    rw [hs] at a1 a4
    rw [a1, Option.bind_some, wrap_i64_succ i (by omega)]
    exact sures_mid hC1 hC hX hXr hxl hL k (i + 1) m σ1 d1 (by omega) (by omega) (a2.more (by omega)) a4 (by rw [a3, (doC_all d.sto ⟨ck, cn, cna, cto, ys⟩ hR.left e2.hi).2.2]; exact hQ)
theorem law_FileSures {σ0 : Heap} {calls data more : Sl} {cs1 cs : List law04_Call} {ps1 ps : List PCall} {xs : List UInt8} (hA1 : CallsArg σ0 calls cs1 ps1) (hX : SlArg eU8 σ0 data xs) (hA : CallsArg σ0 more cs ps) : ∃ σ1, CallOK Try.prog T 3 [.slice calls.b calls.o calls.n 5, .slice data.b data.o data.n 1, .slice more.b more.o more.n 5] σ0 (.bool true) σ1 := by
  have p1 : c_law04_FileSures.law04_fit = w_law04_fit := rfl
  have p2 : c_law04_FileSures.law04_short = w_law04_short := rfl
  have p3 : c_law04_FileSures.file_New = w_file_New := rfl
  have hr := law04_FileSures_eq (R := AVal × Heap) c_law04_FileSures (cs1.length + cs.length + 1) calls data more σ0 fun v σ => some (v, σ)
  have hK := K_law04_FileSures c_law04_FileSures ok_law04_fit ok_law04_short ok_file_New ok_law04_do ok_file_Store_Crash ok_file_Store_Append ok_file_Store_Sync ok_file_Store_Read ok_law04_Call_kind
  rw [p1, w_law04_fit, Option.bind_some, p2, p3] at hr
  simp only [Bool.not_true, cond_false] at hr
  rcases w_law04_short_eq hA1 with h | ⟨h, hC1, _⟩
  · rw [h, Option.bind_some] at hr
    exact ⟨σ0, call_ok ok hK hr⟩
  rw [h, Option.bind_some] at hr
  dsimp only at hr
  rw [show (!true) = false from rfl, cond_false] at hr
  rcases w_law04_short_eq hA with h | ⟨h, hC, _⟩
  · rw [h, Option.bind_some] at hr
    exact ⟨σ0, call_ok ok hK hr⟩
  rw [h, Option.bind_some] at hr
  dsimp only at hr
  rw [show (!true) = false from rfl, cond_false] at hr
  by_cases hd : data.n > 200
  · rw [decide_eq_true (show (data.n : Int) > 200 by omega), cond_true] at hr
    exact ⟨σ0, call_ok ok hK hr⟩
  rw [decide_eq_false (show ¬ (data.n : Int) > 200 by omega), cond_false] at hr
  have hn := hX.n
  obtain ⟨σ1, d, a1, a2, a3, _⟩ := Run.new 1048576 (by decide) σ0
  obtain ⟨σ3, r1⟩ := sures_mid (L := cs1.length + cs.length + 1) hC1 hC (hX.is (by omega)) hX.ro (by omega) (by omega) cs1.length 0 (cs1.length + cs.length + 1) σ1 d (by omega) (by omega) (a2.more (by omega)) rfl (by rw [a3]; rfl)
  rw [a1, Option.bind_some] at hr
  exact ⟨σ3, call_ok ok hK (hr.trans r1)⟩
end Go.Abs.TC
