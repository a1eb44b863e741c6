/-
Contract of cell.PutLine.
Contract of cell.TakeLine: the plain law, and what is asked.
-/
import Derived.Test.YtcfohnfnajfahaaDoorMConB
import Derived.Test.YtcfohnfnajfahaaDoorMConA
import Derived.Test.YtcfohnfnajfahaaDoorEqA3
namespace Go.Abs.TA
open Go Go.Abs Go.Proofs

theorem keep_eq {σ σ' : Heap} (h : Keep σ σ') : keep? σ σ' = some () := by unfold keep?; rw [if_pos h]
theorem _root_.Go.Abs.Grown.pre {α : Type} {E : El α} {s b : Sl} {σ0 σ σ' : Heap} {ys : List α} (h : Grown E s σ0 b σ ys) (hp : σ <+: σ') : Grown E s σ0 b σ' ys :=
  ⟨h.own.pre hp, ⟨Nat.le_trans h.kept.len hp.length_le, fun c hc hne => by rw [get_pre hp (Nat.lt_of_lt_of_le hc h.kept.len)]; exact h.kept.at_ c hc hne⟩, h.new⟩
theorem _root_.Go.Abs.Grown.grow {α : Type} {E : El α} {s b : Sl} {σ0 σ : Heap} {ys zs : List α} (h : Grown E s σ0 b σ ys) : Grown E s σ0 (Go.Abs.grow E σ b zs).1 (Go.Abs.grow E σ b zs).2 zs := by
  have hk := grow_kept (E := E) (σ := σ) (s := b) (zs := zs)
  have hl := h.kept.len
  refine ⟨grow_own, ⟨Nat.le_trans hl hk.len, fun c hc hne => ?_⟩, fun c hc => ?_⟩
  · rw [hk.at_ c (by omega) (fun e => by
      rcases h.new c e with h4 | h4
      · exact hne h4
      · omega)]
    exact h.kept.at_ c hc hne
  · rw [grow_fst] at hc
    simp at hc
    exact .inr (by omega)
theorem keep_grow {α : Type} {E : El α} {b : Sl} {σ : Heap} {ys zs : List α} (h : b.Own E σ ys) : Keep σ (Go.Abs.grow E σ b zs).2 := by
  refine ⟨(grow_kept (E := E) (σ := σ) (s := b) (zs := zs)).len, fun c hc => ?_, fun c x hc hx => ?_⟩
  rotate_left
  · have fin : ∀ (τ : Heap) (y : Blk), τ.length = σ.length → (τ ++ [y])[c]? = some x → y.isTys = false → x.isTys = false := fun τ y hτ hx hy => by
      have hl := (List.getElem?_eq_some_iff.1 hx).1
      simp only [List.length_append, List.length_singleton] at hl
      rw [List.getElem?_append_right (by omega), show c - τ.length = 0 by omega] at hx
      injection hx with hx
      subst hx
      exact hy
    unfold Go.Abs.grow at hx
    split at hx
    · exact fin _ _ rfl hx rfl
    · exact fin _ _ (by simp) hx rfl
  by_cases e : b.b = some c
  · cases h with
    | nil hb _ _ _ => rw [hb] at e; cases e
    | row c0 hb _ _ hr =>
      rw [hb] at e
      injection e with e
      subst e
      refine .inr ⟨?_, _, hr⟩
      unfold Go.Abs.grow
      rw [hb]
      simp only
      rw [List.getElem?_append_left (by simpa using hc), List.getElem?_set_self hc]
  · exact .inl ((grow_kept (E := E) (σ := σ) (s := b) (zs := zs)).at_ c hc e)
theorem back_alloc (σ : Heap) (x : Blk) (h : x.isTys = false := by rfl) : σ.back (σ.frz ++ [x]) = σ ++ [x] :=
  back_frz_append σ [x] fun y hy => by simp only [List.mem_singleton] at hy; subst hy; exact h

def runLen (c : api_Cell) : List api_Cell → Nat
  | [] => 0
  | d :: ds => if d = c then runLen c ds + 1 else 0
theorem runLen_le (c : api_Cell) : ∀ (ds : List api_Cell), runLen c ds ≤ ds.length
  | [] => Nat.le_refl _
  | d :: ds => by
    unfold runLen
    have := runLen_le c ds
    split <;> simp <;> omega
theorem runLen_in (c : api_Cell) : ∀ (ds : List api_Cell) (j : Nat), j < runLen c ds → ds[j]? = some c
  | [], j, h => by simp [runLen] at h
  | d :: ds, j, h => by
    unfold runLen at h
    split at h
    · rename_i e
      cases j with
      | zero => simp [e]
      | succ j => simpa using runLen_in c ds j (by omega)
    · omega
theorem runLen_out (c : api_Cell) : ∀ (ds : List api_Cell) (d : api_Cell), ds[runLen c ds]? = some d → d ≠ c
  | [], d, h => by simp at h
  | x :: ds, d, h => by
    unfold runLen at h
    split at h
    · exact runLen_out c ds d (by simpa using h)
    · rename_i hne
      simp at h
      rw [← h]; exact hne
def lineB : List api_Cell → List UInt8
  | [] => []
  | c :: cs => vput (runLen c cs + 1) ++ (vput c.Rune.toNat ++ (vput (bitsN c.Style) ++ lineB (cs.drop (runLen c cs))))
termination_by xs => xs.length
decreasing_by simp; omega
theorem lineB_nil : lineB [] = [] := by rw [lineB]
theorem lineB_cons (c : api_Cell) (cs : List api_Cell) : lineB (c :: cs) = vput (runLen c cs + 1) ++ (vput c.Rune.toNat ++ (vput (bitsN c.Style) ++ lineB (cs.drop (runLen c cs)))) := by rw [lineB]
/-- What can be told in bytes. -/
def Tell (c : api_Cell) : Prop := 0 ≤ c.Rune ∧ c.Rune < 1114112 ∧ okS c.Style = true

noncomputable def c_cell_PutLine : C_cell_PutLine := { cell_PutStyle := w_cell_PutStyle, vary_Put := w_vary_Put }
section
variable {R : Type} {L : Nat} {l s : Sl} {σ0 : Heap} {K : AVal → Heap → Option R} {xs : List api_Cell}
/-- Same cells. -/
theorem PutLine_L4_run {σ : Heap} {b : Sl} {i E fu0 : Nat} {c : api_Cell} {r : Option R} (hl : l.Is eCell σ xs) (hi : xs[i]? = some c) (hE : E ≤ xs.length)
    (hfin : ∀ fu, cell_PutLine_L4 c_cell_PutLine L fu0 (fu + 1) b l (i : Int) (E : Int) σ K = r) :
    ∀ (e k fu : Nat), k + e = E → e < fu → (∀ j, k ≤ j → j < E → xs[j]? = some c) → cell_PutLine_L4 c_cell_PutLine L fu0 fu b l (i : Int) (k : Int) σ K = r
  | e, k, 0, _, h, _ => by omega
  | 0, k, fu + 1, h, _, _ => by
    obtain rfl : k = E := by omega
    exact hfin fu
  | e + 1, k, fu + 1, h, hf, hc => by
    have hk : k < xs.length := by omega
    have hs := hl.small
    have hi' : i < xs.length := (List.getElem?_eq_some_iff.1 hi).1
    obtain ⟨b1, hb1, f0, f1, f2, f3, f4, f5⟩ := cell_at hl (hc k (Nat.le_refl _) (by omega))
    obtain ⟨b2, hb2, g0, g1, g2, g3, g4, g5⟩ := cell_at hl hi
    rw [hb1] at hb2
    injection hb2 with hb2
    subst hb2
    have ih := PutLine_L4_run (r := r) hl hi hE hfin e (k + 1) fu (by omega) (by omega) fun j h1 h2 => hc j (by omega) h2
    rw [cell_PutLine_L4_eq]
    simp only [hl.n, dec0, lt_true hk, lt_true hi', Bool.and_self, cond_true, hb1, Option.bind_some, Int.toNat_natCast, f0, f1, f2, f3, f4, f5, g0, g1, g2, g3, g4, g5, int?, bool?, if_true, wrap_i64_succ k (by omega), cell_beq, decide_true]
    exact ih
theorem PutLine_L4_end {σ : Heap} {b : Sl} {ys : List UInt8} {i E fu0 : Nat} {c : api_Cell} (hl0 : l.Is eCell σ0 xs) (hne : ∀ b, s.b = some b → l.b ≠ some b) (hg : Grown eU8 s σ0 b σ ys) (hi : xs[i]? = some c) (ht : Tell c)
    (hE : E ≤ xs.length) (hiE : i < E) (hx : xs.length ≤ 100000) (hout : ∀ d, xs[E]? = some d → d ≠ c) (hys : ys.length + 30 ≤ 900000) :
    ∃ b1 σ1, Grown eU8 s σ0 b1 σ1 (ys ++ (vput (E - i) ++ (vput c.Rune.toNat ++ vput (bitsN c.Style)))) ∧ (∀ d, b1.b = some d → σ0.length ≤ d) ∧
      ∀ fu, cell_PutLine_L4 c_cell_PutLine L fu0 (fu + 1) b l (i : Int) (E : Int) σ K = cell_PutLine_L2 c_cell_PutLine L fu0 b1 l (E : Int) σ1 K := by
  have hl := hl0.kept hg.kept hne
  have hi' : i < xs.length := (List.getElem?_eq_some_iff.1 hi).1
  obtain ⟨t1, t2, t3⟩ := ht
  obtain ⟨b2, hb2, g0, g1, g2, g3, g4, g5⟩ := cell_at hl hi
  -- the numbers
  have e1 : IntKind.u64.wrap (IntKind.i64.wrap ((E : Int) - (i : Int))) = ((E - i : Nat) : Int) := by
    rw [show (E : Int) - (i : Int) = ((E - i : Nat) : Int) by omega, wrap_i64_nat _ (by omega), IntKind.wrap_u64]; omega
  have e2 : IntKind.u64.wrap c.Rune = ((c.Rune.toNat : Nat) : Int) := by rw [IntKind.wrap_u64]; omega
  have hp : σ <+: σ ++ [.row [.int .u64 ((E - i : Nat) : Int), .int .u64 ((c.Rune.toNat : Nat) : Int)] .rw] := pre_push ..
  have hg1 := hg.pre hp
  have hap : ∀ d, b.b = some d → (⟨some σ.length, 0, 2⟩ : Sl).b ≠ some d := fun d hd e => by
    simp at e
    have := (hg.own.is (by omega)).lt hd
    omega
  have hP : w_vary_Put b ⟨some σ.length, 0, 2⟩ (σ ++ [.row [.int .u64 ((E - i : Nat) : Int), .int .u64 ((c.Rune.toNat : Nat) : Int)] .rw]) = some (grow eU8 (σ ++ [.row [.int .u64 ((E - i : Nat) : Int), .int .u64 ((c.Rune.toNat : Nat) : Int)] .rw]) b (ys ++ vputs [E - i, c.Rune.toNat])) :=
    w_vary_Put_eq { own := hg1.own, nums := Sl.Is.new (E := eU64) (xs := [((E - i : Nat) : Int), ((c.Rune.toNat : Nat) : Int)]) (by simp), ne := by simp, lt := fun n hn => by simp at hn; omega, small := by simp; omega, apart := hap }
  have hkeep : Keep (σ ++ [.row [.int .u64 ((E - i : Nat) : Int), .int .u64 ((c.Rune.toNat : Nat) : Int)] .rw]) _ := keep_grow (zs := ys ++ vputs [E - i, c.Rune.toNat]) hg1.own
  have hg2 := hg1.grow (zs := ys ++ vputs [E - i, c.Rune.toNat])
  have hba := back_alloc σ (.row [.int .u64 ((E - i : Nat) : Int), .int .u64 ((c.Rune.toNat : Nat) : Int)] .rw)
  generalize (σ ++ [.row [.int .u64 ((E - i : Nat) : Int), .int .u64 ((c.Rune.toNat : Nat) : Int)] .rw] : Heap) = σ1 at hP hkeep hg2 hba
  generalize grow eU8 σ1 b (ys ++ vputs [E - i, c.Rune.toNat]) = q at hP hkeep hg2
  have hlq := hl0.kept hg2.kept hne
  obtain ⟨b3, hb3, k0, k1, k2, k3, k4, k5⟩ := cell_at hlq hi
  have hl1 := vput_len10 (n := E - i) (by omega)
  have hl2 := vput_len10 (n := c.Rune.toNat) (by omega)
  have hvs : vputs [E - i, c.Rune.toNat] = vput (E - i) ++ vput c.Rune.toNat := by simp [vputs]
  have hS := w_cell_PutStyle_eq hg2.own t3 (by rw [hvs]; simp; omega)
  have hg3 := hg2.grow (zs := ys ++ vputs [E - i, c.Rune.toNat] ++ vput (bitsN c.Style))
  have hfst := grow_fst (E := eU8) (σ := q.2) (s := q.1) (zs := ys ++ vputs [E - i, c.Rune.toNat] ++ vput (bitsN c.Style))
  generalize grow eU8 q.2 q.1 (ys ++ vputs [E - i, c.Rune.toNat] ++ vput (bitsN c.Style)) = q2 at hS hg3 hfst
  refine ⟨q2.1, q2.2, ?_, fun d hd => ?_, fun fu => ?_⟩
  · rw [hvs] at hg3
    simpa using hg3
  · rw [hfst] at hd
    simp at hd
    have := hg2.kept.len
    omega
  · have p1 : c_cell_PutLine.vary_Put = w_vary_Put := rfl
    have p2 : c_cell_PutLine.cell_PutStyle = w_cell_PutStyle := rfl
    have hst : (⟨c.Style.Bold, c.Style.Under, c.Style.Turned, c.Style.Fore, c.Style.Back⟩ : api_Style) = c.Style := rfl
    rw [cell_PutLine_L4_eq, hl.n]
    have tl : (l.b.bind fun b17 => (int? (Heap.cell? σ b17 (l.o + i * 6)) .i32).bind fun x18 => alloc (Heap.frz σ) [.int .u64 ((E - i : Nat) : Int), .int .u64 (IntKind.u64.wrap x18)] fun b19 σ20 =>
        (w_vary_Put b ⟨some b19, 0, 2⟩ (Heap.back σ σ20)).bind fun q21 => (keep? (Heap.back σ σ20) q21.2).bind fun _ => l.b.bind fun b23 =>
          (bool? (Heap.cell? q21.2 b23 ((l.o + i * 6) + 1))).bind fun x24 => (bool? (Heap.cell? q21.2 b23 ((l.o + i * 6) + 2))).bind fun x25 => (bool? (Heap.cell? q21.2 b23 ((l.o + i * 6) + 3))).bind fun x26 =>
          (int? (Heap.cell? q21.2 b23 ((l.o + i * 6) + 4)) .i64).bind fun x27 => (int? (Heap.cell? q21.2 b23 ((l.o + i * 6) + 5)) .i64).bind fun x28 =>
          (w_cell_PutStyle q21.1 ⟨x24, x25, x26, x27, x28⟩ q21.2).bind fun q29 => cell_PutLine_L2 c_cell_PutLine L fu0 q29.1 l (E : Int) q29.2 K) = cell_PutLine_L2 c_cell_PutLine L fu0 q2.1 l (E : Int) q2.2 K := by
      rw [hb2] at hb3
      injection hb3 with hb3
      subst hb3
      simp only [hb2, Option.bind_some, g0, int?, if_true, e2, alloc, Heap.frz_length, hba, hP, keep_eq hkeep, k1, k2, k3, k4, k5, bool?, hst, hS]
    by_cases hk : E < xs.length
    · have hx := List.getElem?_eq_getElem hk
      obtain ⟨b1, hb1, f0, f1, f2, f3, f4, f5⟩ := cell_at hl hx
      have hd := hout _ hx
      rw [lt_true hk]
      simp only [dec0, lt_true hi', Bool.and_self, cond_true, hb1, Option.bind_some, Int.toNat_natCast, f0, f1, f2, f3, f4, f5, int?, bool?, if_true]
      rw [hb1] at hb2
      injection hb2 with hb2
      subst hb2
      simp only [g0, g1, g2, g3, g4, g5, Option.bind_some, if_true, cell_beq, decide_eq_false hd, cond_false, p1, p2, e1]
      simp only [hb1, Option.bind_some, g0, int?, if_true] at tl
      exact tl
    · rw [lt_false hk, cond_false]
      simp only [dec0, lt_true hi', Bool.and_self, cond_true, Int.toNat_natCast, p1, p2, e1]
      exact tl
theorem PutLine_loop (hl0 : l.Is eCell σ0 xs) (hne : ∀ b, s.b = some b → l.b ≠ some b) (ht : ∀ c ∈ xs, Tell c) (hx : xs.length ≤ 20000) (hL : xs.length < L) :
    ∀ (d i m : Nat) (b : Sl) (σ : Heap) (ys : List UInt8), i + d = xs.length → d < m → Grown eU8 s σ0 b σ ys → ys.length + 30 * d ≤ 800000 →
      ∃ b1 σ1, Grown eU8 s σ0 b1 σ1 (ys ++ lineB (xs.drop i)) ∧ ((0 < d ∨ ∀ c, b.b = some c → σ0.length ≤ c) → ∀ c, b1.b = some c → σ0.length ≤ c) ∧ cell_PutLine_L2 c_cell_PutLine L m b l (i : Int) σ K = K (.slice b1.b b1.o b1.n 1) σ1 := by
  intro d
  induction d using Nat.strongRecOn with
  | ind d ih =>
    intro i m b σ ys hd hm hg hy
    cases m with
    | zero => omega
    | succ m =>
      have hl := hl0.kept hg.kept hne
      rw [cell_PutLine_L2_eq, hl.n]
      by_cases h0 : d = 0
      · subst h0
        refine ⟨b, σ, ?_, fun h => h.resolve_left (by omega), ?_⟩
        · rw [List.drop_eq_nil_of_le (by omega), lineB_nil, List.append_nil]; exact hg
        · rw [lt_false (show ¬ i < xs.length by omega)]
          rfl
      · have hi : i < xs.length := by omega
        rw [lt_true hi, cond_true]
        have hi' := List.getElem?_eq_getElem hi
        have hdr := List.drop_eq_getElem_cons hi
        generalize hc : xs[i] = c at hi' hdr
        have hr := runLen_le c (xs.drop (i + 1))
        rw [List.length_drop] at hr
        have hin := runLen_in c (xs.drop (i + 1))
        have hout := runLen_out c (xs.drop (i + 1))
        have hlb := lineB_cons c (xs.drop (i + 1))
        rw [List.drop_drop] at hlb
        generalize runLen c (xs.drop (i + 1)) = r at hr hin hout hlb
        have hcm : c ∈ xs := by rw [← hc]; exact List.getElem_mem hi
        have hls1 := vput_len10 (n := r + 1) (by omega)
        have hls2 := vput_len10 (n := c.Rune.toNat) (by have := (ht c hcm).2.1; omega)
        have hls3 := vput_len10 (n := bitsN c.Style) (by have := bitsN_lt (ht c hcm).2.2; omega)
        obtain ⟨b1, σ1, k1, k2, k3⟩ := PutLine_L4_end (L := L) (K := K) (fu0 := m) (E := i + 1 + r) hl0 hne hg hi' (ht c hcm) (by omega) (by omega) (by omega) (fun x hx' => hout x (by rw [List.getElem?_drop]; exact hx')) (by omega)
        rw [PutLine_L4_run (E := i + 1 + r) hl hi' (by omega) k3 (r + 1) i L (by omega) (by omega) (fun j h1 h2 => by
          rcases Nat.lt_or_ge i j with h | h
          · have := hin (j - (i + 1)) (by omega)
            rw [List.getElem?_drop, show i + 1 + (j - (i + 1)) = j by omega] at this
            exact this
          · rw [show j = i by omega]; exact hi')]
        rw [show i + 1 + r - i = r + 1 by omega] at k1
        obtain ⟨b2, σ2, j1, j2, j3⟩ := ih (xs.length - (i + 1 + r)) (by omega) (i + 1 + r) m b1 σ1 _ (by omega) (by omega) k1 (by simp; omega)
        refine ⟨b2, σ2, ?_, fun _ => ?_, j3⟩
        · rw [hdr, hlb]
          simpa using j1
        · exact j2 (.inr k2)
/-- What PutLine is asked at. -/
structure LinePre (b l : Sl) (σ : Heap) (ys : List UInt8) (xs : List api_Cell) : Prop where
  own : b.Own eU8 σ ys
  line : l.Is eCell σ xs
  tell : ∀ c ∈ xs, Tell c
  len : xs.length ≤ 20000
  small : ys.length + 30 * xs.length ≤ 800000
  apart : ∀ d, b.b = some d → l.b ≠ some d
theorem lineB_ne {c : api_Cell} {cs : List api_Cell} : lineB (c :: cs) ≠ [] := by
  rw [lineB_cons]
  intro e
  exact vput_ne _ (List.append_eq_nil_iff.1 e).1
noncomputable def w_cell_PutLine (b l : Sl) (σ : Heap) : Option (Sl × Heap) := wOf (fun p : List UInt8 × List api_Cell => LinePre b l σ p.1 p.2) fun p => if p.2 = [] then (b, σ) else grow eU8 σ b (p.1 ++ lineB p.2)
theorem w_cell_PutLine_eq {b l : Sl} {σ : Heap} {ys : List UInt8} {xs : List api_Cell} (h : LinePre b l σ ys xs) : w_cell_PutLine b l σ = some (if xs = [] then (b, σ) else grow eU8 σ b (ys ++ lineB xs)) :=
  wOf_eq (x := (ys, xs)) h fun p hp => by
    obtain ⟨y, x⟩ := p
    rw [show y = ys from hp.own.uniq (by decide) h.own, show x = xs from hp.line.uniq (by decide) h.line]
theorem ok_cell_PutLine : Ok_cell_PutLine w_cell_PutLine := fun b l σ v σ' h => by
  obtain ⟨⟨ys, xs⟩, hp, e⟩ := wOf_some h
  simp only at hp e
  obtain ⟨b1, σ1, k1, k2, k3⟩ := PutLine_loop (R := AVal × Heap) (L := xs.length + 1) (K := fun v σ => some (v, σ)) hp.line hp.apart hp.tell hp.len (by omega) xs.length 0 (xs.length + 1) b σ ys (by simp) (by omega) (Grown.start hp.own) hp.small
  rw [List.drop_zero] at k1
  have hc := call_ok ok (K_cell_PutLine c_cell_PutLine ok_cell_PutStyle ok_vary_Put) (L := xs.length + 1) (n := 2) ((cell_PutLine_eq c_cell_PutLine (xs.length + 1) b l σ _).trans k3)
  cases xs with
  | nil =>
    rw [if_pos rfl] at e
    injection e with e1 e2
    subst e1; subst e2
    refine call_ok ok (K_cell_PutLine c_cell_PutLine ok_cell_PutStyle ok_vary_Put) (L := 1) (n := 2) ((cell_PutLine_eq c_cell_PutLine 1 b l σ _).trans ?_)
    rw [cell_PutLine_L2_eq, hp.line.n]
    rfl
  | cons c cs =>
    rw [if_neg (by simp)] at e
    obtain ⟨rfl, rfl⟩ : v = (grow eU8 σ b (ys ++ lineB (c :: cs))).1 ∧ σ' = (grow eU8 σ b (ys ++ lineB (c :: cs))).2 := by rw [e]; exact ⟨rfl, rfl⟩
    exact call_grow hc hp.own k1.own (fun e => lineB_ne (List.append_eq_nil_iff.1 e).2) k1.kept (k2 (.inl (by simp)))
end
end Go.Abs.TA
namespace Go.Abs.TA
open Go Go.Abs Go.Proofs

/-- Some choice. -/
noncomputable def wRel {β : Type} (P : β → Heap → Prop) : Option (β × Heap) := open Classical in if h : ∃ x : β × Heap, P x.1 x.2 then some h.choose else none
theorem wRel_some {β : Type} {P : β → Heap → Prop} {x : β × Heap} (h : wRel P = some x) : P x.1 x.2 := by
  unfold wRel at h
  split at h
  · rename_i h'
    injection h with h
    rw [← h]; exact h'.choose_spec
  · cases h
theorem wRel_ex {β : Type} {P : β → Heap → Prop} {v : β} {σ : Heap} (h : P v σ) : ∃ x, wRel P = some x ∧ P x.1 x.2 := by
  unfold wRel
  have h' : ∃ x : β × Heap, P x.1 x.2 := ⟨(v, σ), h⟩
  rw [dif_pos h']
  exact ⟨_, rfl, h'.choose_spec⟩

/-- All but the block p is as it was. -/
def But (p : Nat) (σ σ' : Heap) : Prop := σ.length ≤ σ'.length ∧ ∀ b, b < σ.length → b ≠ p → σ'[b]? = σ[b]?
theorem But.refl (p : Nat) (σ : Heap) : But p σ σ := ⟨Nat.le_refl _, fun _ _ _ => rfl⟩
theorem But.trans {p : Nat} {σ σ' σ'' : Heap} (h : But p σ σ') (k : But p σ' σ'') : But p σ σ'' :=
  ⟨Nat.le_trans h.1 k.1, fun b hb hne => by rw [k.2 b (Nat.lt_of_lt_of_le hb h.1) hne, h.2 b hb hne]⟩
theorem but_setR {σ : Heap} {p : Nat} {s : Sl} {bad : Bool} : But p σ (setR σ p s bad) := ⟨by rw [setR_len]; omega, fun b _ hne => setR_ne hne⟩
theorem but_num {limit : Int} {σ : Heap} {p : Nat} {s : Sl} {bad : Bool} {xs : List UInt8} : But p σ (numRes limit σ p s bad xs).2 := by
  unfold numRes
  cases numOK bad xs limit <;> exact but_setR

/-- What TakeLine reads: the cells, and what is behind them. -/
def takeGo (W : Nat) : Nat → List api_Cell → List UInt8 → Option (List api_Cell × List UInt8)
  | fuel, out, xs =>
    if W ≤ out.length then (if whole out = true then some (out, xs) else none)
    else match fuel with
      | 0 => none
      | fuel + 1 =>
        bif numOK false xs ((W - out.length + 1 : Nat) : Int) then
          bif numOK false (xs.drop (vtake xs).2) 1114112 then
            bif numOK false ((xs.drop (vtake xs).2).drop (vtake (xs.drop (vtake xs).2)).2) 2048 && okS (styleOf (vtake ((xs.drop (vtake xs).2).drop (vtake (xs.drop (vtake xs).2)).2)).1) then
              if (vtake xs).1 = 0 ∨ out.getLast? = some ⟨((vtake (xs.drop (vtake xs).2)).1 : Int), styleOf (vtake ((xs.drop (vtake xs).2).drop (vtake (xs.drop (vtake xs).2)).2)).1⟩ then none
              else takeGo W fuel (out ++ List.replicate (vtake xs).1 ⟨((vtake (xs.drop (vtake xs).2)).1 : Int), styleOf (vtake ((xs.drop (vtake xs).2).drop (vtake (xs.drop (vtake xs).2)).2)).1⟩)
                (((xs.drop (vtake xs).2).drop (vtake (xs.drop (vtake xs).2)).2).drop (vtake ((xs.drop (vtake xs).2).drop (vtake (xs.drop (vtake xs).2)).2)).2)
            else none
          else none
        else none
end Go.Abs.TA
