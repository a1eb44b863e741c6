/-
Contract of cell.PutLine.
Contract of cell.TakeLine: the plain law, and what is asked.
The bytes of a number are its own.
Lines come back from their bytes.
The walk of cell.TakeLine.
The walk of cell.TakeLine: its loop.
Contract of cell.TakeLine, and of the reader's Done.
-/
import Derived.Test.YtcfohnfnajfahaaDoorMConB
import Derived.Test.YtcfohnfnajfahaaDoorMConA
import Derived.Test.YtcfohnfnajfahaaDoorEqA3
namespace Go.Abs.TA
open Go Go.Abs Go.Proofs

theorem keep_eq {σ σ' : Heap} (h : Keep σ σ') : keep? σ σ' = some () := by unfold keep?; rw [if_pos h]
theorem _root_.Go.Abs.Grown.pre {α : Type} {E : El α} {s b : Sl} {σ0 σ σ' : Heap} {ys : List α} (h : Grown E s σ0 b σ ys) (hp : σ <+: σ') : Grown E s σ0 b σ' ys :=
  ⟨h.own.pre hp, ⟨Nat.le_trans h.kept.len hp.length_le, fun c hc hne => by rw [get_pre hp (Nat.lt_of_lt_of_le hc h.kept.len)]; exact h.kept.at_ c hc hne⟩, h.new⟩
theorem _root_.Go.Abs.Grown.grow {α : Type} {E : El α} {s b : Sl} {σ0 σ : Heap} {ys zs : List α} (h : Grown E s σ0 b σ ys) : Grown E s σ0 (Go.Abs.grow E σ b zs).1 (Go.Abs.grow E σ b zs).2 zs := by
  have hk := grow_kept (E := E) (σ := σ) (s := b) (zs := zs)
  have hl := h.kept.len
  refine ⟨grow_own, ⟨Nat.le_trans hl hk.len, fun c hc hne => ?_⟩, fun c hc => ?_⟩
  · rw [hk.at_ c (by omega) (fun e => by
      rcases h.new c e with h4 | h4
      · exact hne h4
      · omega)]
    exact h.kept.at_ c hc hne
  · rw [grow_fst] at hc
    simp at hc
    exact .inr (by omega)
theorem keep_grow {α : Type} {E : El α} {b : Sl} {σ : Heap} {ys zs : List α} (h : b.Own E σ ys) : Keep σ (Go.Abs.grow E σ b zs).2 := by
  refine ⟨(grow_kept (E := E) (σ := σ) (s := b) (zs := zs)).len, fun c hc => ?_⟩
  by_cases e : b.b = some c
  · cases h with
    | nil hb _ _ _ => rw [hb] at e; cases e
    | row c0 hb _ _ hr =>
      rw [hb] at e
      injection e with e
      subst e
      refine .inr ⟨?_, _, hr⟩
      unfold Go.Abs.grow
      rw [hb]
      simp only
      rw [List.getElem?_append_left (by simpa using hc), List.getElem?_set_self hc]
  · exact .inl ((grow_kept (E := E) (σ := σ) (s := b) (zs := zs)).at_ c hc e)
theorem back_alloc (σ : Heap) (x : Blk) : σ.back (σ.frz ++ [x]) = σ ++ [x] := by
  unfold Heap.back
  rw [List.drop_append_of_le_length (by rw [Heap.frz_length]; omega), List.drop_of_length_le (by rw [Heap.frz_length]; omega), List.nil_append]

def runLen (c : api_Cell) : List api_Cell → Nat
  | [] => 0
  | d :: ds => if d = c then runLen c ds + 1 else 0
theorem runLen_le (c : api_Cell) : ∀ (ds : List api_Cell), runLen c ds ≤ ds.length
  | [] => Nat.le_refl _
  | d :: ds => by
    unfold runLen
    have := runLen_le c ds
    split <;> simp <;> omega
theorem runLen_in (c : api_Cell) : ∀ (ds : List api_Cell) (j : Nat), j < runLen c ds → ds[j]? = some c
  | [], j, h => by simp [runLen] at h
  | d :: ds, j, h => by
    unfold runLen at h
    split at h
    · rename_i e
      cases j with
      | zero => simp [e]
      | succ j => simpa using runLen_in c ds j (by omega)
    · omega
theorem runLen_out (c : api_Cell) : ∀ (ds : List api_Cell) (d : api_Cell), ds[runLen c ds]? = some d → d ≠ c
  | [], d, h => by simp at h
  | x :: ds, d, h => by
    unfold runLen at h
    split at h
    · exact runLen_out c ds d (by simpa using h)
    · rename_i hne
      simp at h
      rw [← h]; exact hne
def lineB : List api_Cell → List UInt8
  | [] => []
  | c :: cs => vput (runLen c cs + 1) ++ (vput c.Rune.toNat ++ (vput (bitsN c.Style) ++ lineB (cs.drop (runLen c cs))))
termination_by xs => xs.length
decreasing_by simp; omega
theorem lineB_nil : lineB [] = [] := by rw [lineB]
theorem lineB_cons (c : api_Cell) (cs : List api_Cell) : lineB (c :: cs) = vput (runLen c cs + 1) ++ (vput c.Rune.toNat ++ (vput (bitsN c.Style) ++ lineB (cs.drop (runLen c cs)))) := by rw [lineB]
/-- What can be told in bytes. -/
def Tell (c : api_Cell) : Prop := 0 ≤ c.Rune ∧ c.Rune < 1114112 ∧ okS c.Style = true

noncomputable def c_cell_PutLine : C_cell_PutLine := { cell_PutStyle := w_cell_PutStyle, vary_Put := w_vary_Put }
section
variable {R : Type} {L : Nat} {l s : Sl} {σ0 : Heap} {K : AVal → Heap → Option R} {xs : List api_Cell}
/-- Same cells. -/
theorem PutLine_L4_run {σ : Heap} {b : Sl} {i E fu0 : Nat} {c : api_Cell} {r : Option R} (hl : l.Is eCell σ xs) (hi : xs[i]? = some c) (hE : E ≤ xs.length)
    (hfin : ∀ fu, cell_PutLine_L4 c_cell_PutLine L fu0 (fu + 1) b l (i : Int) (E : Int) σ K = r) :
    ∀ (e k fu : Nat), k + e = E → e < fu → (∀ j, k ≤ j → j < E → xs[j]? = some c) → cell_PutLine_L4 c_cell_PutLine L fu0 fu b l (i : Int) (k : Int) σ K = r
  | e, k, 0, _, h, _ => by omega
  | 0, k, fu + 1, h, _, _ => by
    obtain rfl : k = E := by omega
    exact hfin fu
  | e + 1, k, fu + 1, h, hf, hc => by
    have hk : k < xs.length := by omega
    have hs := hl.small
    have hi' : i < xs.length := (List.getElem?_eq_some_iff.1 hi).1
    obtain ⟨b1, hb1, f0, f1, f2, f3, f4, f5⟩ := cell_at hl (hc k (Nat.le_refl _) (by omega))
    obtain ⟨b2, hb2, g0, g1, g2, g3, g4, g5⟩ := cell_at hl hi
    rw [hb1] at hb2
    injection hb2 with hb2
    subst hb2
    have ih := PutLine_L4_run (r := r) hl hi hE hfin e (k + 1) fu (by omega) (by omega) fun j h1 h2 => hc j (by omega) h2
    rw [cell_PutLine_L4_eq]
    simp only [hl.n, dec0, lt_true hk, lt_true hi', Bool.and_self, cond_true, hb1, Option.bind_some, Int.toNat_natCast, f0, f1, f2, f3, f4, f5, g0, g1, g2, g3, g4, g5, int?, bool?, if_true, wrap_i64_succ k (by omega), cell_beq, decide_true]
    exact ih
theorem PutLine_L4_end {σ : Heap} {b : Sl} {ys : List UInt8} {i E fu0 : Nat} {c : api_Cell} (hl0 : l.Is eCell σ0 xs) (hne : ∀ b, s.b = some b → l.b ≠ some b) (hg : Grown eU8 s σ0 b σ ys) (hi : xs[i]? = some c) (ht : Tell c)
    (hE : E ≤ xs.length) (hiE : i < E) (hx : xs.length ≤ 100000) (hout : ∀ d, xs[E]? = some d → d ≠ c) (hys : ys.length + 30 ≤ 900000) :
    ∃ b1 σ1, Grown eU8 s σ0 b1 σ1 (ys ++ (vput (E - i) ++ (vput c.Rune.toNat ++ vput (bitsN c.Style)))) ∧ (∀ d, b1.b = some d → σ0.length ≤ d) ∧
      ∀ fu, cell_PutLine_L4 c_cell_PutLine L fu0 (fu + 1) b l (i : Int) (E : Int) σ K = cell_PutLine_L2 c_cell_PutLine L fu0 b1 l (E : Int) σ1 K := by
  have hl := hl0.kept hg.kept hne
  have hi' : i < xs.length := (List.getElem?_eq_some_iff.1 hi).1
  obtain ⟨t1, t2, t3⟩ := ht
  obtain ⟨b2, hb2, g0, g1, g2, g3, g4, g5⟩ := cell_at hl hi
  -- the numbers
  have e1 : IntKind.u64.wrap (IntKind.i64.wrap ((E : Int) - (i : Int))) = ((E - i : Nat) : Int) := by
    rw [show (E : Int) - (i : Int) = ((E - i : Nat) : Int) by omega, wrap_i64_nat _ (by omega), IntKind.wrap_u64]; omega
  have e2 : IntKind.u64.wrap c.Rune = ((c.Rune.toNat : Nat) : Int) := by rw [IntKind.wrap_u64]; omega
  have hp : σ <+: σ ++ [.row [.int .u64 ((E - i : Nat) : Int), .int .u64 ((c.Rune.toNat : Nat) : Int)] .rw] := pre_push ..
  have hg1 := hg.pre hp
  have hap : ∀ d, b.b = some d → (⟨some σ.length, 0, 2⟩ : Sl).b ≠ some d := fun d hd e => by
    simp at e
    have := (hg.own.is (by omega)).lt hd
    omega
  have hP : w_vary_Put b ⟨some σ.length, 0, 2⟩ (σ ++ [.row [.int .u64 ((E - i : Nat) : Int), .int .u64 ((c.Rune.toNat : Nat) : Int)] .rw]) = some (grow eU8 (σ ++ [.row [.int .u64 ((E - i : Nat) : Int), .int .u64 ((c.Rune.toNat : Nat) : Int)] .rw]) b (ys ++ vputs [E - i, c.Rune.toNat])) :=
    w_vary_Put_eq { own := hg1.own, nums := Sl.Is.new (E := eU64) (xs := [((E - i : Nat) : Int), ((c.Rune.toNat : Nat) : Int)]) (by simp), ne := by simp, lt := fun n hn => by simp at hn; omega, small := by simp; omega, apart := hap }
  have hkeep : Keep (σ ++ [.row [.int .u64 ((E - i : Nat) : Int), .int .u64 ((c.Rune.toNat : Nat) : Int)] .rw]) _ := keep_grow (zs := ys ++ vputs [E - i, c.Rune.toNat]) hg1.own
  have hg2 := hg1.grow (zs := ys ++ vputs [E - i, c.Rune.toNat])
  have hba := back_alloc σ (.row [.int .u64 ((E - i : Nat) : Int), .int .u64 ((c.Rune.toNat : Nat) : Int)] .rw)
  generalize (σ ++ [.row [.int .u64 ((E - i : Nat) : Int), .int .u64 ((c.Rune.toNat : Nat) : Int)] .rw] : Heap) = σ1 at hP hkeep hg2 hba
  generalize grow eU8 σ1 b (ys ++ vputs [E - i, c.Rune.toNat]) = q at hP hkeep hg2
  have hlq := hl0.kept hg2.kept hne
  obtain ⟨b3, hb3, k0, k1, k2, k3, k4, k5⟩ := cell_at hlq hi
  have hl1 := vput_len10 (n := E - i) (by omega)
  have hl2 := vput_len10 (n := c.Rune.toNat) (by omega)
  have hvs : vputs [E - i, c.Rune.toNat] = vput (E - i) ++ vput c.Rune.toNat := by simp [vputs]
  have hS := w_cell_PutStyle_eq hg2.own t3 (by rw [hvs]; simp; omega)
  have hg3 := hg2.grow (zs := ys ++ vputs [E - i, c.Rune.toNat] ++ vput (bitsN c.Style))
  have hfst := grow_fst (E := eU8) (σ := q.2) (s := q.1) (zs := ys ++ vputs [E - i, c.Rune.toNat] ++ vput (bitsN c.Style))
  generalize grow eU8 q.2 q.1 (ys ++ vputs [E - i, c.Rune.toNat] ++ vput (bitsN c.Style)) = q2 at hS hg3 hfst
  refine ⟨q2.1, q2.2, ?_, fun d hd => ?_, fun fu => ?_⟩
  · rw [hvs] at hg3
    simpa using hg3
  · rw [hfst] at hd
    simp at hd
    have := hg2.kept.len
    omega
  · have p1 : c_cell_PutLine.vary_Put = w_vary_Put := rfl
    have p2 : c_cell_PutLine.cell_PutStyle = w_cell_PutStyle := rfl
    have hst : (⟨c.Style.Bold, c.Style.Under, c.Style.Turned, c.Style.Fore, c.Style.Back⟩ : api_Style) = c.Style := rfl
    rw [cell_PutLine_L4_eq, hl.n]
    have tl : (l.b.bind fun b17 => (int? (Heap.cell? σ b17 (l.o + i * 6)) .i32).bind fun x18 => alloc (Heap.frz σ) [.int .u64 ((E - i : Nat) : Int), .int .u64 (IntKind.u64.wrap x18)] fun b19 σ20 =>
        (w_vary_Put b ⟨some b19, 0, 2⟩ (Heap.back σ σ20)).bind fun q21 => (keep? (Heap.back σ σ20) q21.2).bind fun _ => l.b.bind fun b23 =>
          (bool? (Heap.cell? q21.2 b23 ((l.o + i * 6) + 1))).bind fun x24 => (bool? (Heap.cell? q21.2 b23 ((l.o + i * 6) + 2))).bind fun x25 => (bool? (Heap.cell? q21.2 b23 ((l.o + i * 6) + 3))).bind fun x26 =>
          (int? (Heap.cell? q21.2 b23 ((l.o + i * 6) + 4)) .i64).bind fun x27 => (int? (Heap.cell? q21.2 b23 ((l.o + i * 6) + 5)) .i64).bind fun x28 =>
          (w_cell_PutStyle q21.1 ⟨x24, x25, x26, x27, x28⟩ q21.2).bind fun q29 => cell_PutLine_L2 c_cell_PutLine L fu0 q29.1 l (E : Int) q29.2 K) = cell_PutLine_L2 c_cell_PutLine L fu0 q2.1 l (E : Int) q2.2 K := by
      rw [hb2] at hb3
      injection hb3 with hb3
      subst hb3
      simp only [hb2, Option.bind_some, g0, int?, if_true, e2, alloc, Heap.frz_length, hba, hP, keep_eq hkeep, k1, k2, k3, k4, k5, bool?, hst, hS]
    by_cases hk : E < xs.length
    · have hx := List.getElem?_eq_getElem hk
      obtain ⟨b1, hb1, f0, f1, f2, f3, f4, f5⟩ := cell_at hl hx
      have hd := hout _ hx
      rw [lt_true hk]
      simp only [dec0, lt_true hi', Bool.and_self, cond_true, hb1, Option.bind_some, Int.toNat_natCast, f0, f1, f2, f3, f4, f5, int?, bool?, if_true]
      rw [hb1] at hb2
      injection hb2 with hb2
      subst hb2
      simp only [g0, g1, g2, g3, g4, g5, Option.bind_some, if_true, cell_beq, decide_eq_false hd, cond_false, p1, p2, e1]
      simp only [hb1, Option.bind_some, g0, int?, if_true] at tl
      exact tl
    · rw [lt_false hk, cond_false]
      simp only [dec0, lt_true hi', Bool.and_self, cond_true, Int.toNat_natCast, p1, p2, e1]
      exact tl
theorem PutLine_loop (hl0 : l.Is eCell σ0 xs) (hne : ∀ b, s.b = some b → l.b ≠ some b) (ht : ∀ c ∈ xs, Tell c) (hx : xs.length ≤ 20000) (hL : xs.length < L) :
    ∀ (d i m : Nat) (b : Sl) (σ : Heap) (ys : List UInt8), i + d = xs.length → d < m → Grown eU8 s σ0 b σ ys → ys.length + 30 * d ≤ 800000 →
      ∃ b1 σ1, Grown eU8 s σ0 b1 σ1 (ys ++ lineB (xs.drop i)) ∧ ((0 < d ∨ ∀ c, b.b = some c → σ0.length ≤ c) → ∀ c, b1.b = some c → σ0.length ≤ c) ∧ cell_PutLine_L2 c_cell_PutLine L m b l (i : Int) σ K = K (.slice b1.b b1.o b1.n 1) σ1 := by
  intro d
  induction d using Nat.strongRecOn with
  | ind d ih =>
    intro i m b σ ys hd hm hg hy
    cases m with
    | zero => omega
    | succ m =>
      have hl := hl0.kept hg.kept hne
      rw [cell_PutLine_L2_eq, hl.n]
      by_cases h0 : d = 0
      · subst h0
        refine ⟨b, σ, ?_, fun h => h.resolve_left (by omega), ?_⟩
        · rw [List.drop_eq_nil_of_le (by omega), lineB_nil, List.append_nil]; exact hg
        · rw [lt_false (show ¬ i < xs.length by omega)]
          rfl
      · have hi : i < xs.length := by omega
        rw [lt_true hi, cond_true]
        have hi' := List.getElem?_eq_getElem hi
        have hdr := List.drop_eq_getElem_cons hi
        generalize hc : xs[i] = c at hi' hdr
        have hr := runLen_le c (xs.drop (i + 1))
        rw [List.length_drop] at hr
        have hin := runLen_in c (xs.drop (i + 1))
        have hout := runLen_out c (xs.drop (i + 1))
        have hlb := lineB_cons c (xs.drop (i + 1))
        rw [List.drop_drop] at hlb
        generalize runLen c (xs.drop (i + 1)) = r at hr hin hout hlb
        have hcm : c ∈ xs := by rw [← hc]; exact List.getElem_mem hi
        have hls1 := vput_len10 (n := r + 1) (by omega)
        have hls2 := vput_len10 (n := c.Rune.toNat) (by have := (ht c hcm).2.1; omega)
        have hls3 := vput_len10 (n := bitsN c.Style) (by have := bitsN_lt (ht c hcm).2.2; omega)
        obtain ⟨b1, σ1, k1, k2, k3⟩ := PutLine_L4_end (L := L) (K := K) (fu0 := m) (E := i + 1 + r) hl0 hne hg hi' (ht c hcm) (by omega) (by omega) (by omega) (fun x hx' => hout x (by rw [List.getElem?_drop]; exact hx')) (by omega)
        rw [PutLine_L4_run (E := i + 1 + r) hl hi' (by omega) k3 (r + 1) i L (by omega) (by omega) (fun j h1 h2 => by
          rcases Nat.lt_or_ge i j with h | h
          · have := hin (j - (i + 1)) (by omega)
            rw [List.getElem?_drop, show i + 1 + (j - (i + 1)) = j by omega] at this
            exact this
          · rw [show j = i by omega]; exact hi')]
        rw [show i + 1 + r - i = r + 1 by omega] at k1
        obtain ⟨b2, σ2, j1, j2, j3⟩ := ih (xs.length - (i + 1 + r)) (by omega) (i + 1 + r) m b1 σ1 _ (by omega) (by omega) k1 (by simp; omega)
        refine ⟨b2, σ2, ?_, fun _ => ?_, j3⟩
        · rw [hdr, hlb]
          simpa using j1
        · exact j2 (.inr k2)
/-- What PutLine is asked at. -/
structure LinePre (b l : Sl) (σ : Heap) (ys : List UInt8) (xs : List api_Cell) : Prop where
  own : b.Own eU8 σ ys
  line : l.Is eCell σ xs
  tell : ∀ c ∈ xs, Tell c
  len : xs.length ≤ 20000
  small : ys.length + 30 * xs.length ≤ 800000
  apart : ∀ d, b.b = some d → l.b ≠ some d
theorem lineB_ne {c : api_Cell} {cs : List api_Cell} : lineB (c :: cs) ≠ [] := by
  rw [lineB_cons]
  intro e
  exact vput_ne _ (List.append_eq_nil_iff.1 e).1
noncomputable def w_cell_PutLine (b l : Sl) (σ : Heap) : Option (Sl × Heap) := wOf (fun p : List UInt8 × List api_Cell => LinePre b l σ p.1 p.2) fun p => if p.2 = [] then (b, σ) else grow eU8 σ b (p.1 ++ lineB p.2)
theorem w_cell_PutLine_eq {b l : Sl} {σ : Heap} {ys : List UInt8} {xs : List api_Cell} (h : LinePre b l σ ys xs) : w_cell_PutLine b l σ = some (if xs = [] then (b, σ) else grow eU8 σ b (ys ++ lineB xs)) :=
  wOf_eq (x := (ys, xs)) h fun p hp => by
    obtain ⟨y, x⟩ := p
    rw [show y = ys from hp.own.uniq (by decide) h.own, show x = xs from hp.line.uniq (by decide) h.line]
theorem ok_cell_PutLine : Ok_cell_PutLine w_cell_PutLine := fun b l σ v σ' h => by
  obtain ⟨⟨ys, xs⟩, hp, e⟩ := wOf_some h
  simp only at hp e
  obtain ⟨b1, σ1, k1, k2, k3⟩ := PutLine_loop (R := AVal × Heap) (L := xs.length + 1) (K := fun v σ => some (v, σ)) hp.line hp.apart hp.tell hp.len (by omega) xs.length 0 (xs.length + 1) b σ ys (by simp) (by omega) (Grown.start hp.own) hp.small
  rw [List.drop_zero] at k1
  have hc := call_ok ok (K_cell_PutLine c_cell_PutLine ok_cell_PutStyle ok_vary_Put) (L := xs.length + 1) (n := 2) ((cell_PutLine_eq c_cell_PutLine (xs.length + 1) b l σ _).trans k3)
  cases xs with
  | nil =>
    rw [if_pos rfl] at e
    injection e with e1 e2
    subst e1; subst e2
    refine call_ok ok (K_cell_PutLine c_cell_PutLine ok_cell_PutStyle ok_vary_Put) (L := 1) (n := 2) ((cell_PutLine_eq c_cell_PutLine 1 b l σ _).trans ?_)
    rw [cell_PutLine_L2_eq, hp.line.n]
    rfl
  | cons c cs =>
    rw [if_neg (by simp)] at e
    obtain ⟨rfl, rfl⟩ : v = (grow eU8 σ b (ys ++ lineB (c :: cs))).1 ∧ σ' = (grow eU8 σ b (ys ++ lineB (c :: cs))).2 := by rw [e]; exact ⟨rfl, rfl⟩
    exact call_grow hc hp.own k1.own (fun e => lineB_ne (List.append_eq_nil_iff.1 e).2) k1.kept (k2 (.inl (by simp)))
end
end Go.Abs.TA
namespace Go.Abs.TA
open Go Go.Abs Go.Proofs

/-- Some choice. -/
noncomputable def wRel {β : Type} (P : β → Heap → Prop) : Option (β × Heap) := open Classical in if h : ∃ x : β × Heap, P x.1 x.2 then some h.choose else none
theorem wRel_some {β : Type} {P : β → Heap → Prop} {x : β × Heap} (h : wRel P = some x) : P x.1 x.2 := by
  unfold wRel at h
  split at h
  · rename_i h'
    injection h with h
    rw [← h]; exact h'.choose_spec
  · cases h
theorem wRel_ex {β : Type} {P : β → Heap → Prop} {v : β} {σ : Heap} (h : P v σ) : ∃ x, wRel P = some x ∧ P x.1 x.2 := by
  unfold wRel
  have h' : ∃ x : β × Heap, P x.1 x.2 := ⟨(v, σ), h⟩
  rw [dif_pos h']
  exact ⟨_, rfl, h'.choose_spec⟩

/-- All but the block p is as it was. -/
def But (p : Nat) (σ σ' : Heap) : Prop := σ.length ≤ σ'.length ∧ ∀ b, b < σ.length → b ≠ p → σ'[b]? = σ[b]?
theorem But.refl (p : Nat) (σ : Heap) : But p σ σ := ⟨Nat.le_refl _, fun _ _ _ => rfl⟩
theorem But.trans {p : Nat} {σ σ' σ'' : Heap} (h : But p σ σ') (k : But p σ' σ'') : But p σ σ'' :=
  ⟨Nat.le_trans h.1 k.1, fun b hb hne => by rw [k.2 b (Nat.lt_of_lt_of_le hb h.1) hne, h.2 b hb hne]⟩
theorem but_setR {σ : Heap} {p : Nat} {s : Sl} {bad : Bool} : But p σ (setR σ p s bad) := ⟨by rw [setR_len]; omega, fun b _ hne => setR_ne hne⟩
theorem but_num {limit : Int} {σ : Heap} {p : Nat} {s : Sl} {bad : Bool} {xs : List UInt8} : But p σ (numRes limit σ p s bad xs).2 := by
  unfold numRes
  cases numOK bad xs limit <;> exact but_setR

/-- What TakeLine reads: the cells, and what is behind them. -/
def takeGo (W : Nat) : Nat → List api_Cell → List UInt8 → Option (List api_Cell × List UInt8)
  | fuel, out, xs =>
    if W ≤ out.length then (if whole out = true then some (out, xs) else none)
    else match fuel with
      | 0 => none
      | fuel + 1 =>
        bif numOK false xs ((W - out.length + 1 : Nat) : Int) then
          bif numOK false (xs.drop (vtake xs).2) 1114112 then
            bif numOK false ((xs.drop (vtake xs).2).drop (vtake (xs.drop (vtake xs).2)).2) 2048 && okS (styleOf (vtake ((xs.drop (vtake xs).2).drop (vtake (xs.drop (vtake xs).2)).2)).1) then
              if (vtake xs).1 = 0 ∨ out.getLast? = some ⟨((vtake (xs.drop (vtake xs).2)).1 : Int), styleOf (vtake ((xs.drop (vtake xs).2).drop (vtake (xs.drop (vtake xs).2)).2)).1⟩ then none
              else takeGo W fuel (out ++ List.replicate (vtake xs).1 ⟨((vtake (xs.drop (vtake xs).2)).1 : Int), styleOf (vtake ((xs.drop (vtake xs).2).drop (vtake (xs.drop (vtake xs).2)).2)).1⟩)
                (((xs.drop (vtake xs).2).drop (vtake (xs.drop (vtake xs).2)).2).drop (vtake ((xs.drop (vtake xs).2).drop (vtake (xs.drop (vtake xs).2)).2)).2)
            else none
          else none
        else none
end Go.Abs.TA
namespace Go.Abs.TA
open Go Go.Abs Go.Proofs

theorem vtakeGo_canon : ∀ (xs : List UInt8) (i acc v k : Nat), vtakeGo i acc xs = (v, k) → k ≠ 0 →
    ∃ n, v = acc + n * 2 ^ (7 * i) ∧ k = i + (vput n).length ∧ xs = vput n ++ xs.drop (vput n).length ∧ (0 < i → n ≠ 0)
  | [], i, acc, v, k, h, hk => by
    simp [vtakeGo] at h
    exact absurd h.2.symm hk
  | c :: cs, i, acc, v, k, h, hk => by
    have hc := c.toNat_lt
    have hof : UInt8.ofNat c.toNat = c := by simp
    unfold vtakeGo at h
    split at h
    · simp at h; exact absurd h.2.symm hk
    · split at h
      · rename_i h1
        split at h
        · simp at h; exact absurd h.2.symm hk
        · rename_i h2
          simp only [Prod.mk.injEq] at h
          refine ⟨c.toNat, ?_, ?_, ?_, fun hi h0 => h2 ⟨h0, hi⟩⟩
          · rw [← h.1, Nat.mod_eq_of_lt h1]
          · rw [vput_lt h1, ← h.2]; rfl
          · rw [vput_lt h1, hof]; rfl
      · rename_i h1
        obtain ⟨n, e1, e2, e3, e4⟩ := vtakeGo_canon cs (i + 1) _ v k h hk
        have hn := e4 (by omega)
        have hge : 128 ≤ c.toNat % 128 + 128 * n := by omega
        refine ⟨c.toNat % 128 + 128 * n, ?_, ?_, ?_, fun _ => by omega⟩
        · rw [e1, show 7 * (i + 1) = 7 * i + 7 by omega, Nat.pow_add, Nat.add_mul, Nat.add_assoc]
          congr 1
          congr 1
          rw [Nat.mul_comm (2 ^ (7 * i)) (2 ^ 7), ← Nat.mul_assoc, Nat.mul_comm n (2 ^ 7)]
        · rw [vput_ge hge, show (c.toNat % 128 + 128 * n) / 128 = n by omega, e2]
          simp only [List.length_cons]
          omega
        · rw [vput_ge hge, show (c.toNat % 128 + 128 * n) / 128 = n by omega, show (c.toNat % 128 + 128 * n) % 128 + 128 = c.toNat by omega, hof]
          simp only [List.length_cons, List.cons_append, List.drop_succ_cons]
          rw [← e3]
theorem vtake_canon {xs : List UInt8} (h : (vtake xs).2 ≠ 0) : xs = vput (vtake xs).1 ++ xs.drop (vtake xs).2 := by
  obtain ⟨n, e1, e2, e3, _⟩ := vtakeGo_canon xs 0 0 (vtake xs).1 (vtake xs).2 rfl h
  simp at e1 e2
  rw [e1, e2]
  exact e3
theorem bits_style_fin : ∀ n : Fin 2048, okS (styleOf n.val) = true → bitsN (styleOf n.val) = n.val := by decide +kernel
theorem bits_style {n : Nat} (h : n < 2048) (hs : okS (styleOf n) = true) : bitsN (styleOf n) = n := bits_style_fin ⟨n, h⟩ hs

theorem runLen_rep {c : api_Cell} {zs : List api_Cell} (h : zs.head? ≠ some c) : ∀ (m : Nat), runLen c (List.replicate m c ++ zs) = m
  | 0 => by
    cases zs with
    | nil => rfl
    | cons z zs =>
      simp only [List.replicate_zero, List.nil_append, runLen]
      rw [if_neg (by simpa using h)]
  | m + 1 => by
    simp only [List.replicate_succ, List.cons_append, runLen, if_pos]
    rw [runLen_rep h m]
theorem lineB_rep {c : api_Cell} {zs : List api_Cell} {n : Nat} (hn : n ≠ 0) (h : zs.head? ≠ some c) : lineB (List.replicate n c ++ zs) = vput n ++ (vput c.Rune.toNat ++ (vput (bitsN c.Style) ++ lineB zs)) := by
  obtain ⟨m, rfl⟩ : ∃ m, n = m + 1 := ⟨n - 1, by omega⟩
  rw [List.replicate_succ, List.cons_append, lineB_cons, runLen_rep h, List.drop_append_of_le_length (by simp)]
  simp
theorem takeGo_spec (W : Nat) : ∀ (fuel : Nat) (out : List api_Cell) (xs : List UInt8) (o : List api_Cell) (rest : List UInt8), takeGo W fuel out xs = some (o, rest) → out.length ≤ W →
    ∃ ys, o = out ++ ys ∧ xs = lineB ys ++ rest ∧ (∀ c ∈ ys, Tell c) ∧ (∀ c, ys.head? = some c → out.getLast? ≠ some c) ∧ o.length = W ∧ whole o = true := by
  intro fuel
  induction fuel with
  | zero =>
    intro out xs o rest h hl
    unfold takeGo at h
    split at h
    · split at h
      · rename_i h1 h2
        simp only [Option.some.injEq, Prod.mk.injEq] at h
        obtain ⟨rfl, rfl⟩ := h
        exact ⟨[], by simp, by simp [lineB_nil], by simp, by simp, by omega, h2⟩
      · cases h
    · cases h
  | succ fuel ih =>
    intro out xs o rest h hl
    unfold takeGo at h
    split at h
    · split at h
      · rename_i h1 h2
        simp only [Option.some.injEq, Prod.mk.injEq] at h
        obtain ⟨rfl, rfl⟩ := h
        exact ⟨[], by simp, by simp [lineB_nil], by simp, by simp, by omega, h2⟩
      · cases h
    · rename_i hW
      simp only at h
      cases h1 : numOK false xs ((W - out.length + 1 : Nat) : Int) with
      | false => rw [h1] at h; cases h
      | true =>
      rw [h1] at h
      simp only [cond_true] at h
      have c1 := h1
      unfold numOK at c1
      simp only [Bool.not_false, Bool.true_and, decide_eq_true_eq] at c1
      have x1 := vtake_canon c1.1
      generalize (vtake xs).1 = n at h c1 x1
      generalize xs.drop (vtake xs).2 = xs1 at h x1
      cases h2 : numOK false xs1 1114112 with
      | false => rw [h2] at h; cases h
      | true =>
      rw [h2] at h
      simp only [cond_true] at h
      have c2 := h2
      unfold numOK at c2
      simp only [Bool.not_false, Bool.true_and, decide_eq_true_eq] at c2
      have x2 := vtake_canon c2.1
      generalize (vtake xs1).1 = r at h c2 x2
      generalize xs1.drop (vtake xs1).2 = xs2 at h x2
      cases h3 : numOK false xs2 2048 && okS (styleOf (vtake xs2).1) with
      | false => rw [h3] at h; cases h
      | true =>
      rw [h3] at h
      simp only [cond_true] at h
      rw [Bool.and_eq_true] at h3
      obtain ⟨h3, hs⟩ := h3
      have c3 := h3
      unfold numOK at c3
      simp only [Bool.not_false, Bool.true_and, decide_eq_true_eq] at c3
      have x3 := vtake_canon c3.1
      generalize (vtake xs2).1 = t at h c3 x3 hs
      generalize xs2.drop (vtake xs2).2 = xs3 at h x3
      split at h
      · cases h
      · rename_i hno
        have hn0 : n ≠ 0 := fun e => hno (.inl e)
        have hlast : out.getLast? ≠ some ⟨(r : Int), styleOf t⟩ := fun e => hno (.inr e)
        obtain ⟨ys, e1, e2, e3, e4, e5, e6⟩ := ih _ _ _ _ h (by simp; omega)
        have hb := bits_style (n := t) (by omega) hs
        have hl' : (out ++ List.replicate n (⟨(r : Int), styleOf t⟩ : api_Cell)).getLast? = some (⟨(r : Int), styleOf t⟩ : api_Cell) := by
          obtain ⟨m, rfl⟩ : ∃ m, n = m + 1 := ⟨n - 1, by omega⟩
          rw [List.replicate_succ', ← List.append_assoc]
          exact List.getLast?_concat ..
        have hhead : ys.head? ≠ some (⟨(r : Int), styleOf t⟩ : api_Cell) := fun e => e4 _ e hl'
        refine ⟨List.replicate n (⟨(r : Int), styleOf t⟩ : api_Cell) ++ ys, by rw [e1]; simp, ?_, fun c hc => ?_, fun c hc => ?_, e5, e6⟩
        · rw [lineB_rep hn0 hhead, x1, x2, x3, e2]
          simp [hb]
        · rcases List.mem_append.1 hc with hc | hc
          · rw [(List.mem_replicate.1 hc).2]
            exact ⟨by simp, by simp; omega, hs⟩
          · exact e3 c hc
        · obtain ⟨m, rfl⟩ : ∃ m, n = m + 1 := ⟨n - 1, by omega⟩
          simp [List.replicate_succ] at hc
          rw [← hc]; exact hlast
end Go.Abs.TA
namespace Go.Abs.TA
open Go Go.Abs Go.Proofs

theorem numOK_vput {n : Nat} {rest : List UInt8} {limit : Int} (h : (n : Int) < limit) (h64 : n < 18446744073709551616) : numOK false (vput n ++ rest) limit = true := by
  unfold numOK
  rw [vtake_vput h64]
  simp only [Bool.not_false, Bool.true_and, decide_eq_true_eq]
  exact ⟨fun e => vput_ne _ (List.eq_nil_of_length_eq_zero e), h⟩
theorem runLen_split (c : api_Cell) : ∀ (cs : List api_Cell), cs = List.replicate (runLen c cs) c ++ cs.drop (runLen c cs) ∧ (cs.drop (runLen c cs)).head? ≠ some c
  | [] => by simp [runLen]
  | d :: ds => by
    unfold runLen
    obtain ⟨h1, h2⟩ := runLen_split c ds
    split
    · rename_i e
      subst e
      rw [List.replicate_succ, List.cons_append, List.drop_succ_cons, ← h1]
      exact ⟨rfl, h2⟩
    · rename_i hne
      simpa using hne
theorem takeGo_line (W : Nat) (rest : List UInt8) : ∀ (d : Nat) (ys out : List api_Cell) (fuel : Nat), ys.length ≤ d → d ≤ fuel → out.length + ys.length ≤ W → W ≤ 1000000 → (∀ c ∈ ys, Tell c) → (∀ c, ys.head? = some c → out.getLast? ≠ some c) →
    ∃ fuel', fuel ≤ fuel' + ys.length ∧ takeGo W fuel out (lineB ys ++ rest) = takeGo W fuel' (out ++ ys) rest := by
  intro d
  induction d with
  | zero =>
    intro ys out fuel h1 _ _ _ _ _
    obtain rfl : ys = [] := List.eq_nil_of_length_eq_zero (by omega)
    exact ⟨fuel, by simp, by simp [lineB_nil]⟩
  | succ d ih =>
    intro ys out fuel h1 h2 h3 h4 h5 h6
    cases ys with
    | nil => exact ⟨fuel, by simp, by simp [lineB_nil]⟩
    | cons c cs =>
      obtain ⟨s1, s2⟩ := runLen_split c cs
      have hr := runLen_le c cs
      obtain ⟨t1, t2, t3⟩ := h5 c List.mem_cons_self
      simp only [List.length_cons] at h1 h3
      cases fuel with
      | zero => omega
      | succ fuel =>
        have hb := bitsN_lt t3
        have hzl : (cs.drop (runLen c cs)).length = cs.length - runLen c cs := List.length_drop
        rw [lineB_cons]
        generalize hz : cs.drop (runLen c cs) = zs at s1 s2 hzl ⊢
        generalize runLen c cs = r at s1 hr hzl ⊢
        have hcell : (⟨((c.Rune.toNat : Nat) : Int), styleOf (bitsN c.Style)⟩ : api_Cell) = c := by
          rw [style_back t3, show ((c.Rune.toNat : Nat) : Int) = c.Rune by omega]
        obtain ⟨fuel', g1, g2⟩ := ih zs (out ++ List.replicate (r + 1) c) fuel (by omega) (by omega) (by simp; omega) h4 (fun x hx => h5 x (by rw [s1]; exact List.mem_cons_of_mem _ (List.mem_append_right _ hx))) (fun x hx => by
          rw [List.replicate_succ', ← List.append_assoc, List.getLast?_concat]
          rintro e
          injection e with e
          subst e
          exact s2 hx)
        refine ⟨fuel', by simp; omega, ?_⟩
        rw [show out ++ c :: cs = out ++ List.replicate (r + 1) c ++ zs by rw [s1]; simp [List.replicate_succ], ← g2]
        conv => lhs; unfold takeGo
        rw [if_neg (by omega)]
        simp only [List.append_assoc]
        rw [numOK_vput (by omega) (by omega), cond_true, vtake_vput (by omega)]
        simp only [List.drop_left]
        rw [numOK_vput (by omega) (by omega), cond_true, vtake_vput (by omega)]
        simp only [List.drop_left]
        rw [numOK_vput (by omega) (by omega), vtake_vput (by omega)]
        simp only [List.drop_left, hcell]
        rw [style_back t3, t3]
        simp only [Bool.and_self, cond_true]
        rw [if_neg (by
          rintro (e | e)
          · omega
          · exact h6 c rfl e)]
theorem takeGo_end {W F : Nat} {out : List api_Cell} {xs : List UInt8} (h : W ≤ out.length) : takeGo W F out xs = if whole out = true then some (out, xs) else none := by
  cases F <;> (unfold takeGo; rw [if_pos h])
theorem takeGo_nil {W F : Nat} {out : List api_Cell} (h : ¬ W ≤ out.length) : takeGo W F out [] = none := by
  cases F <;> (unfold takeGo; rw [if_neg h])
  rfl
/-- A whole line comes back. -/
theorem takeGo_back {l : List api_Cell} {rest : List UInt8} {F : Nat} (hw : whole l = true) (ht : ∀ c ∈ l, Tell c) (hl : l.length ≤ 1000000) (hF : l.length ≤ F) : takeGo l.length F [] (lineB l ++ rest) = some (l, rest) := by
  obtain ⟨F', _, h⟩ := takeGo_line l.length rest l.length l [] F (Nat.le_refl _) hF (by simp) hl ht (by simp)
  rw [h, List.nil_append, takeGo_end (Nat.le_refl _), if_pos hw]
/-- One that is cut off doesn't. -/
theorem takeGo_cut {l : List api_Cell} {k F : Nat} (hw : whole l = true) (ht : ∀ c ∈ l, Tell c) (hl : l.length ≤ 1000000) (hF : l.length ≤ F) (hk : k < (lineB l).length) : takeGo l.length F [] ((lineB l).take k) = none := by
  cases h : takeGo l.length F [] ((lineB l).take k) with
  | none => rfl
  | some p =>
    obtain ⟨o, rest⟩ := p
    obtain ⟨ys, e1, e2, e3, _, e5, e6⟩ := takeGo_spec l.length F [] _ o rest h (by simp)
    simp at e1
    subst e1
    have b1 := takeGo_back (l := l) (rest := []) hw ht hl hF
    have b2 := takeGo_back (l := o) (rest := rest ++ (lineB l).drop k) (F := F) e6 e3 (by omega) (by omega)
    rw [← List.append_assoc, ← e2, List.take_append_drop, e5] at b2
    rw [List.append_nil, b2] at b1
    injection b1 with b1
    have := congrArg (fun p => p.2.length) b1
    simp at this
    omega
/-- One cell more is too many. -/
theorem takeGo_more {l : List api_Cell} {F : Nat} (ht : ∀ c ∈ l, Tell c) (hl : l.length < 1000000) (hF : l.length ≤ F) : takeGo (l.length + 1) F [] (lineB l) = none := by
  obtain ⟨F', _, h⟩ := takeGo_line (l.length + 1) [] l.length l [] F (Nat.le_refl _) hF (by simp) (by omega) ht (by simp)
  rw [List.append_nil] at h
  rw [h, List.nil_append, takeGo_nil (by omega)]
theorem takeGo_zero {xs : List UInt8} {F : Nat} : takeGo 0 F [] xs = some ([], xs) := by rw [takeGo_end (by simp)]; rfl
end Go.Abs.TA
namespace Go.Abs.TA
open Go Go.Abs Go.Proofs

/-- On its way. -/
structure TL (σ0 : Heap) (p : Nat) (σ : Heap) (s : Sl) (xs : List UInt8) (q : Sl) (out : List api_Cell) : Prop where
  but : But p σ0 σ
  rdr : Rdr σ p s false
  is : s.Is eU8 σ xs
  own : q.Own eCell σ out
  new : ∀ c, q.b = some c → σ0.length ≤ c
  lt : p < σ0.length
  sb : ∀ b, s.b = some b → b < σ0.length ∧ b ≠ p
noncomputable def c_cell_TakeLine : C_cell_TakeLine := { cell_Whole := w_cell_Whole, cell_TakeStyle := w_cell_TakeStyle, vary_Reader_Num := w_vary_Reader_Num }
theorem TL.append {σ0 σ : Heap} {p : Nat} {s q : Sl} {xs : List UInt8} {out : List api_Cell} (h : TL σ0 p σ s xs q out) (c : api_Cell) (hl : out.length ≤ 1000000) :
    ∃ q' σ', σ.append q.b q.o q.n 6 32 c.cells 1 = some (q', σ') ∧ TL σ0 p σ' s xs ⟨q'.1, q'.2.1, q'.2.2⟩ (out ++ [c]) := by
  obtain ⟨q', σ', h1, h2, h3, h4⟩ := append_own h.own (ys := [c]) (bytes := 32) (vs := c.cells) (k := 1) rfl rfl (by simp; omega) (by simp; omega)
  have hle := h.but.1
  have hne : ∀ b, b < σ0.length → q.b ≠ some b := fun b hb e => by have := h.new b e; omega
  refine ⟨q', σ', h1, ⟨Nat.le_trans hle h3.len, fun b hb hbp => ?_⟩, ?_, ?_, h2, fun d hd => ?_, h.lt, h.sb⟩
  · rw [h3.at_ b (by omega) (hne b hb)]
    exact h.but.2 b hb hbp
  · unfold Rdr
    rw [h3.at_ p (by have := h.lt; omega) (hne p h.lt)]
    exact h.rdr
  · exact h.is.kept h3 fun b hb e => hne b (h.sb b e).1 hb
  · rcases h4 d hd with h5 | h5
    · exact h.new d h5
    · omega
theorem TakeLine_L9_ok {R : Type} {L fu0 : Nat} {W : Int} {σ0 : Heap} {p : Nat} {s : Sl} {xs : List UInt8} {c : api_Cell} {n : Nat} {K : AVal → Heap → Option R} (hn : n ≤ 1000000) :
    ∀ (d i m : Nat) (σ : Heap) (q : Sl) (out : List api_Cell), i + d = n → d < m → out.length + d ≤ 1000000 → TL σ0 p σ s xs q out →
      ∃ σ1 q1, TL σ0 p σ1 s xs q1 (out ++ List.replicate d c) ∧ cell_TakeLine_L9 c_cell_TakeLine L fu0 m (some (p, 0)) W q (n : Int) (i : Int) c σ K = cell_TakeLine_L2 c_cell_TakeLine L fu0 (some (p, 0)) W q1 σ1 K
  | d, i, 0, _, _, _, _, h, _, _ => by omega
  | 0, i, m + 1, σ, q, out, h, _, _, ht => by
    refine ⟨σ, q, by simpa using ht, ?_⟩
    rw [cell_TakeLine_L9_eq, lt_false (show ¬ i < n by omega)]
    rfl
  | d + 1, i, m + 1, σ, q, out, h, hm, ho, ht => by
    obtain ⟨q', σ', h1, h2⟩ := ht.append c (by omega)
    obtain ⟨σ1, q1, k1, k2⟩ := TakeLine_L9_ok (L := L) (fu0 := fu0) (W := W) (K := K) hn d (i + 1) m σ' _ _ (by omega) (by omega) (by simp; omega) h2
    refine ⟨σ1, q1, ?_, ?_⟩
    · rw [List.replicate_succ]
      simpa using k1
    · have h1' : σ.append q.b q.o q.n 6 32 [.int .i32 c.Rune, .bool c.Style.Bold, .bool c.Style.Under, .bool c.Style.Turned, .int .i64 c.Style.Fore, .int .i64 c.Style.Back] 1 = some (q', σ') := h1
      rw [cell_TakeLine_L9_eq, lt_true (show i < n by omega), cond_true, h1', Option.bind_some, wrap_i64_succ i (by omega)]
      exact k2
theorem TL.take {σ0 σ : Heap} {p : Nat} {s q : Sl} {xs : List UInt8} {out : List api_Cell} {limit : Int} (h : TL σ0 p σ s xs q out) (hok : numOK false xs limit = true) :
    (numRes limit σ p s false xs).1 = ((vtake xs).1 : Int) ∧ TL σ0 p (numRes limit σ p s false xs).2 ⟨s.b, s.o + (vtake xs).2 * 1, s.n - (vtake xs).2⟩ (xs.drop (vtake xs).2) q out := by
  have hq : ∀ c, q.b = some c → c ≠ p := fun c hc e => by have := h.new c hc; have := h.lt; omega
  have hb := but_num (limit := limit) (σ := σ) (p := p) (s := s) (bad := false) (xs := xs)
  have hr := numRes_rdr (limit := limit) (xs := xs) h.rdr
  rw [hok] at hr
  refine ⟨by unfold numRes; rw [hok]; rfl, h.but.trans hb, hr, ?_, ?_, h.new, h.lt, fun b hb => h.sb b hb⟩
  · refine (h.is.drop (vtake_le xs)).of_row fun b cs e hrow => ?_
    have hlt := (h.sb b e).1
    have hle := h.but.1
    unfold Heap.row? at hrow ⊢
    rw [hb.2 b (by omega) (h.sb b e).2]
    exact hrow
  · cases h.own with
    | nil h1 h2 h3 h4 => exact .nil h1 h2 h3 h4
    | row c h1 h2 h3 h4 => exact .row c h1 h2 h3 (by rw [hb.2 c (List.getElem?_eq_some_iff.1 h4).1 (hq c h1)]; exact h4)
theorem TL.pre {σ0 σ : Heap} {p : Nat} {s q : Sl} {xs : List UInt8} {out : List api_Cell} (h : TL σ0 p σ s xs q out) {limit : Int} (l0 : 0 < limit) (l1 : limit ≤ 9223372036854775807) : NumPre (some (p, 0)) limit σ p s false xs :=
  ⟨rfl, h.rdr, h.is, l0, l1⟩
/-- A reader that is bad: any number is nought, no style is read. -/
structure TB (σ0 : Heap) (p : Nat) (σ : Heap) (s : Sl) (xs : List UInt8) : Prop where
  but : But p σ0 σ
  rdr : Rdr σ p s true
  is : s.Is eU8 σ xs
  lt : p < σ0.length
  sb : ∀ b, s.b = some b → b < σ0.length ∧ b ≠ p
theorem set_is {σ0 σ σ' : Heap} {p : Nat} {s : Sl} {xs : List UInt8} (h : s.Is eU8 σ xs) (h0 : But p σ0 σ) (hb : But p σ σ') (sb : ∀ b, s.b = some b → b < σ0.length ∧ b ≠ p) : s.Is eU8 σ' xs := by
  refine h.of_row fun b cs e hrow => ?_
  have hlt := (sb b e).1
  have hle := h0.1
  unfold Heap.row? at hrow ⊢
  rw [hb.2 b (by omega) (sb b e).2]
  exact hrow
theorem TL.bad {σ0 σ : Heap} {p : Nat} {s q : Sl} {xs : List UInt8} {out : List api_Cell} {limit : Int} (h : TL σ0 p σ s xs q out) (hok : numOK false xs limit = false) :
    TB σ0 p (numRes limit σ p s false xs).2 s xs := by
  have hb := but_num (limit := limit) (σ := σ) (p := p) (s := s) (bad := false) (xs := xs)
  have hr := numRes_rdr (limit := limit) (xs := xs) h.rdr
  rw [hok] at hr
  exact ⟨h.but.trans hb, hr, set_is h.is h.but hb h.sb, h.lt, h.sb⟩
theorem TB.num {σ0 σ : Heap} {p : Nat} {s : Sl} {xs : List UInt8} {limit : Int} (h : TB σ0 p σ s xs) : TB σ0 p (numRes limit σ p s true xs).2 s xs := by
  have hb := but_num (limit := limit) (σ := σ) (p := p) (s := s) (bad := true) (xs := xs)
  have hr := numRes_rdr (limit := limit) (xs := xs) h.rdr
  have hok : numOK true xs limit = false := rfl
  rw [hok] at hr
  exact ⟨h.but.trans hb, hr, set_is h.is h.but hb h.sb, h.lt, h.sb⟩
theorem TB.pre {σ0 σ : Heap} {p : Nat} {s : Sl} {xs : List UInt8} (h : TB σ0 p σ s xs) {limit : Int} (l0 : 0 < limit) (l1 : limit ≤ 9223372036854775807) : NumPre (some (p, 0)) limit σ p s true xs :=
  ⟨rfl, h.rdr, h.is, l0, l1⟩
theorem TB.style {σ0 σ : Heap} {p : Nat} {s : Sl} {xs : List UInt8} (h : TB σ0 p σ s xs) : ∃ σ', w_cell_TakeStyle (some (p, 0)) σ = some ((zeroS, false), σ') ∧ But p σ0 σ' := by
  refine ⟨(numRes 2048 σ p s true xs).2, ?_, h.num.but⟩
  rw [w_cell_TakeStyle_eq (h.pre (by decide) (by decide))]
  rfl
end Go.Abs.TA
namespace Go.Abs.TA
open Go Go.Abs Go.Proofs

theorem wide_but {σ0 σ : Heap} {p : Nat} (h : WideOK σ0) (hb : But p σ0 σ) (hp : ∃ cs, σ0[p]? = some (.row cs .rw)) : WideOK σ := by
  refine h.set (hb.2 0 ?_ ?_)
  · exact (List.getElem?_eq_some_iff.1 h).1
  · rintro rfl
    obtain ⟨cs, hc⟩ := hp
    unfold WideOK at h
    rw [h] at hc
    injection hc with hc
    cases hc
/-- What comes of it. -/
def TLRes (σ0 : Heap) (p : Nat) (_s : Sl) (r : Option (AVal × Heap)) : Option (List api_Cell × List UInt8) → Prop
  | some (o, rest) => ∃ q σ' s', r = some (.tuple [.slice q.b q.o q.n 6, .bool true], σ') ∧ TL σ0 p σ' s' rest q o
  | none => ∃ σ', r = some (.tuple [.slice none 0 0 6, .bool false], σ') ∧ But p σ0 σ'
theorem TakeLine_end {L W m fuel : Nat} {σ0 σ : Heap} {p : Nat} {s0 s q : Sl} {xs : List UInt8} {out : List api_Cell} (hW : W ≤ 1000000) (hwide : WideOK σ0) (hp : ∃ cs, σ0[p]? = some (.row cs .rw)) (ht : TL σ0 p σ s xs q out) (hl : out.length = W) :
    TLRes σ0 p s0 (cell_TakeLine_L2 c_cell_TakeLine L (m + 1) (some (p, 0)) (W : Int) q σ (fun v σ => some (v, σ))) (takeGo W fuel out xs) := by
  have hn : q.n = out.length := ht.own.len
  have p3 : c_cell_TakeLine.cell_Whole = w_cell_Whole := rfl
  rw [cell_TakeLine_L2_eq, hn, p3, lt_false (by omega), cond_false, w_cell_Whole_eq (ht.own.is (by omega)) (wide_but hwide ht.but hp), Option.bind_some, takeGo_end (by omega)]
  cases hw : whole out with
  | false => exact ⟨_, rfl, ht.but⟩
  | true =>
    refine ⟨q, σ, s, ?_, ht⟩
    rw [← hn]
    rfl
theorem TakeLine_L2_ok {L W : Nat} {σ0 : Heap} {p : Nat} {s0 : Sl} (hL : W < L) (hW : W ≤ 1000000) (hwide : WideOK σ0) (hp : ∃ cs, σ0[p]? = some (.row cs .rw)) :
    ∀ (fuel m : Nat) (σ : Heap) (s q : Sl) (xs : List UInt8) (out : List api_Cell), fuel < m → TL σ0 p σ s xs q out → out.length ≤ W → W ≤ out.length + fuel →
      TLRes σ0 p s0 (cell_TakeLine_L2 c_cell_TakeLine L m (some (p, 0)) (W : Int) q σ (fun v σ => some (v, σ))) (takeGo W fuel out xs) := by
  intro fuel
  induction fuel with
  | zero =>
    intro m σ s q xs out hm ht hl hf
    cases m with
    | zero => omega
    | succ m => exact TakeLine_end hW hwide hp ht (by omega)
  | succ fuel ih =>
    intro m σ s q xs out hm ht hl hf
    cases m with
    | zero => omega
    | succ m =>
      have hn : q.n = out.length := ht.own.len
      have p1 : c_cell_TakeLine.vary_Reader_Num = w_vary_Reader_Num := rfl
      have p2 : c_cell_TakeLine.cell_TakeStyle = w_cell_TakeStyle := rfl
      have p3 : c_cell_TakeLine.cell_Whole = w_cell_Whole := rfl
      rcases Nat.lt_or_ge out.length W with hlt | hge
      · have e1 : IntKind.i64.wrap (IntKind.i64.wrap ((W : Int) - (out.length : Int)) + 1) = ((W - out.length + 1 : Nat) : Int) := by
          rw [show (W : Int) - (out.length : Int) = ((W - out.length : Nat) : Int) by omega, wrap_i64_nat _ (by omega), show ((W - out.length : Nat) : Int) + 1 = ((W - out.length + 1 : Nat) : Int) by omega, wrap_i64_nat _ (by omega)]
        have lim0 : (0 : Int) < ((W - out.length + 1 : Nat) : Int) := by omega
        have lim1 : ((W - out.length + 1 : Nat) : Int) ≤ 9223372036854775807 := by omega
        conv => rhs; unfold takeGo
        rw [if_neg (by omega)]
        simp only
        rw [cell_TakeLine_L2_eq, hn, p1, p2, p3, lt_true hlt, cond_true, e1, w_vary_Reader_Num_eq (ht.pre lim0 lim1), Option.bind_some]
        cases h1 : numOK false xs ((W - out.length + 1 : Nat) : Int) with
        | false =>
          have b1 := ht.bad h1
          rw [w_vary_Reader_Num_eq (b1.pre (by decide) (by decide)), Option.bind_some]
          obtain ⟨σ', g1, g2⟩ := b1.num.style
          rw [g1, Option.bind_some]
          exact ⟨σ', rfl, g2⟩
        | true =>
          obtain ⟨v1, t1⟩ := ht.take h1
          have hk1 : (vtake xs).1 < W - out.length + 1 := by
            have := h1
            unfold numOK at this
            simp only [Bool.not_false, Bool.true_and, decide_eq_true_eq] at this
            omega
          rw [cond_true]
          generalize numRes ((W - out.length + 1 : Nat) : Int) σ p s false xs = q3 at v1 t1 ⊢
          generalize (⟨s.b, s.o + (vtake xs).2 * 1, s.n - (vtake xs).2⟩ : Sl) = s1 at t1
          generalize (vtake xs).1 = n at v1 hk1 ⊢
          generalize xs.drop (vtake xs).2 = xs1 at t1 ⊢
          rw [w_vary_Reader_Num_eq (t1.pre (by decide) (by decide)), Option.bind_some]
          cases h2 : numOK false xs1 1114112 with
          | false =>
            obtain ⟨σ', g1, g2⟩ := (t1.bad h2).style
            rw [g1, Option.bind_some]
            exact ⟨σ', rfl, g2⟩
          | true =>
            obtain ⟨v2, t2⟩ := t1.take h2
            have hk2 : (vtake xs1).1 < 1114112 := by
              have := h2
              unfold numOK at this
              simp only [Bool.not_false, Bool.true_and, decide_eq_true_eq] at this
              omega
            rw [cond_true]
            generalize numRes 1114112 q3.2 p s1 false xs1 = q4 at v2 t2 ⊢
            generalize (⟨s1.b, s1.o + (vtake xs1).2 * 1, s1.n - (vtake xs1).2⟩ : Sl) = s2 at t2
            generalize (vtake xs1).1 = r at v2 hk2 ⊢
            generalize xs1.drop (vtake xs1).2 = xs2 at t2 ⊢
            rw [w_cell_TakeStyle_eq (t2.pre (by decide) (by decide)), Option.bind_some]
            unfold takeS
            cases h3 : numOK false xs2 2048 && okS (styleOf (vtake xs2).1) with
            | false =>
              simp only [cond_false, Bool.not_false, cond_true]
              exact ⟨_, rfl, t2.but.trans but_num⟩
            | true =>
              rw [Bool.and_eq_true] at h3
              obtain ⟨h3, hs⟩ := h3
              obtain ⟨v3, t3⟩ := t2.take h3
              simp only [cond_true, Bool.not_true, cond_false]
              generalize numRes 2048 q4.2 p s2 false xs2 = q5 at v3 t3 ⊢
              generalize (⟨s2.b, s2.o + (vtake xs2).2 * 1, s2.n - (vtake xs2).2⟩ : Sl) = s3 at t3
              generalize styleOf (vtake xs2).1 = st at hs ⊢
              generalize xs2.drop (vtake xs2).2 = xs3 at t3 ⊢
              have e2 : IntKind.i32.wrap q4.1 = (r : Int) := by rw [v2, IntKind.wrap_i32]; omega
              rw [v1, e2]
              by_cases hn0 : n = 0
              · subst hn0
                rw [if_pos (.inl rfl)]
                exact ⟨_, rfl, t3.but⟩
              · rw [show ((n : Int) == 0) = false by rw [beq_eq_false_iff_ne]; omega, cond_false]
                have go : out.getLast? ≠ some (⟨(r : Int), st⟩ : api_Cell) → TLRes σ0 p s0 (cell_TakeLine_L9 c_cell_TakeLine L m L (some (p, 0)) (W : Int) q (n : Int) 0 ⟨(r : Int), st⟩ q5.2 (fun v σ => some (v, σ)))
                    (takeGo W fuel (out ++ List.replicate n ⟨(r : Int), st⟩) xs3) := fun _ => by
                  obtain ⟨σ1, q1, k1, k2⟩ := TakeLine_L9_ok (n := n) (L := L) (fu0 := m) (W := (W : Int)) (c := ⟨(r : Int), st⟩) (K := fun v σ => some (v, σ)) (by omega) n 0 L q5.2 q out (by omega) (by omega) (by omega) t3
                  have k2' : cell_TakeLine_L9 c_cell_TakeLine L m L (some (p, 0)) (W : Int) q (n : Int) 0 ⟨(r : Int), st⟩ q5.2 (fun v σ => some (v, σ)) = _ := k2
                  rw [k2']
                  exact ih m σ1 s3 q1 xs3 _ (by omega) k1 (by simp; omega) (by simp; omega)
                cases hlast : out.getLast? with
                | none =>
                  obtain rfl : out = [] := by simpa using hlast
                  rw [show decide ((([] : List api_Cell).length : Int) > 0) = false by simp, cond_false, if_neg (by simp [hn0])]
                  exact go (by simp)
                | some last =>
                  have hne : 0 < out.length := by
                    cases out with
                    | nil => simp at hlast
                    | cons _ _ => simp
                  have hget : out[out.length - 1]? = some last := by rw [← List.getLast?_eq_getElem?]; exact hlast
                  have e3 : IntKind.i64.wrap ((out.length : Int) - 1) = ((out.length - 1 : Nat) : Int) := by
                    rw [wrap_i64_of (by omega) (by omega)]; omega
                  obtain ⟨b, hb, f0, f1, f2, f3, f4, f5⟩ := cell_at (t3.own.is (by omega)) hget
                  have hbq := cell_beq last ⟨(r : Int), st⟩
                  simp only at hbq
                  rw [show decide ((out.length : Int) > 0) = true by simpa using hne, cond_true, e3, dec0, lt_true (show out.length - 1 < out.length by omega), Bool.and_self, cond_true]
                  simp only [hb, Option.bind_some, Int.toNat_natCast, f0, f1, f2, f3, f4, f5, int?, bool?, if_true]
                  rw [hbq]
                  by_cases he : last = ⟨(r : Int), st⟩
                  · rw [decide_eq_true he, cond_true, if_pos (.inr (by rw [he]))]
                    exact ⟨_, rfl, t3.but⟩
                  · rw [decide_eq_false he, cond_false, if_neg (by
                      rintro (h | h)
                      · exact hn0 h
                      · injection h with h; exact he h)]
                    exact go (by
                      rw [hlast]
                      intro h
                      injection h with h; exact he h)
      · exact TakeLine_end hW hwide hp ht (by omega)
end Go.Abs.TA
namespace Go.Abs.TA
open Go Go.Abs Go.Proofs

/-- What TakeLine is asked at. -/
structure TLPre (r : Pt) (W : Int) (σ : Heap) (p : Nat) (s : Sl) (xs : List UInt8) : Prop where
  at_ : r = some (p, 0)
  rdr : Rdr σ p s false
  is : s.Is eU8 σ xs
  w0 : 0 ≤ W
  w1 : W ≤ 1000000
  wide : WideOK σ
  sb : s.b ≠ some p
/-- What comes of it. -/
def TLPost (σ0 : Heap) (p : Nat) (v : Sl × Bool) (σ' : Heap) : Option (List api_Cell × List UInt8) → Prop
  | some (o, rest) => v.2 = true ∧ ∃ s', TL σ0 p σ' s' rest v.1 o
  | none => v = (⟨none, 0, 0⟩, false) ∧ But p σ0 σ'
theorem TLPre.uniq {r : Pt} {W : Int} {σ : Heap} {p p' : Nat} {s s' : Sl} {xs xs' : List UInt8} (h : TLPre r W σ p s xs) (h' : TLPre r W σ p' s' xs') : p' = p ∧ xs' = xs := by
  have e := h'.at_
  rw [h.at_] at e
  injection e with e
  injection e with e
  subst e
  obtain ⟨rfl, _⟩ := h.rdr.uniq h'.rdr
  exact ⟨rfl, h'.is.uniq (by decide) h.is⟩
noncomputable def w_cell_TakeLine (r : Pt) (W : Int) (σ : Heap) : Option ((Sl × Bool) × Heap) :=
  wRel fun v σ' => CallOK Tryd.prog T 42 [tPtr.av r, (tInt .i64).av W] σ ((tPair (tSl 6) tBool).av v) σ' ∧
    ∀ p s xs, TLPre r W σ p s xs → TLPost σ p v σ' (takeGo W.toNat W.toNat [] xs)
theorem ok_cell_TakeLine : Ok_cell_TakeLine w_cell_TakeLine := fun _ _ _ _ _ h => (wRel_some h).1
theorem w_cell_TakeLine_ex {r : Pt} {W : Int} {σ : Heap} {p : Nat} {s : Sl} {xs : List UInt8} (h : TLPre r W σ p s xs) :
    ∃ x, w_cell_TakeLine r W σ = some x ∧ TLPost σ p x.1 x.2 (takeGo W.toNat W.toNat [] xs) := by
  have h0 := h.w0
  have h1 := h.w1
  have hW : (W.toNat : Int) = W := by omega
  have t0 : TL σ p σ s xs ⟨none, 0, 0⟩ [] := ⟨But.refl _ _, h.rdr, h.is, .nil rfl rfl rfl rfl, fun c hc => by simp at hc, h.rdr.lt, fun b hb => ⟨h.is.lt hb, fun e => h.sb (by rw [hb, e])⟩⟩
  have hl := TakeLine_L2_ok (s0 := s) (L := 1000002) (W := W.toNat) (by omega) (by omega) h.wide ⟨_, h.rdr⟩ W.toNat 1000002 σ s ⟨none, 0, 0⟩ xs [] (by omega) t0 (by simp) (by simp)
  rw [hW] at hl
  have key : ∃ v σ', cell_TakeLine_L2 (R := AVal × Heap) c_cell_TakeLine 1000002 1000002 (some (p, 0)) W ⟨none, 0, 0⟩ σ (fun v σ => some (v, σ)) = some ((tPair (tSl 6) tBool).av v, σ') ∧ TLPost σ p v σ' (takeGo W.toNat W.toNat [] xs) := by
    cases hg : takeGo W.toNat W.toNat [] xs with
    | none =>
      rw [hg] at hl
      obtain ⟨σ', e, hb⟩ := hl
      exact ⟨(⟨none, 0, 0⟩, false), σ', e, rfl, hb⟩
    | some x =>
      obtain ⟨o, rest⟩ := x
      rw [hg] at hl
      obtain ⟨q, σ', s', e, ht⟩ := hl
      exact ⟨(q, true), σ', e, rfl, s', ht⟩
  obtain ⟨v, σ', e, hp⟩ := key
  obtain ⟨x, hx, hP⟩ := wRel_ex (P := fun v σ' => CallOK Tryd.prog T 42 [tPtr.av r, (tInt .i64).av W] σ ((tPair (tSl 6) tBool).av v) σ' ∧
    ∀ p s xs, TLPre r W σ p s xs → TLPost σ p v σ' (takeGo W.toNat W.toNat [] xs)) (v := v) (σ := σ') ⟨by
      have hr := h.at_
      subst hr
      exact call_ok ok (K_cell_TakeLine c_cell_TakeLine ok_cell_Whole ok_cell_TakeStyle ok_vary_Reader_Num) (L := 1000002) (n := 2) ((cell_TakeLine_eq c_cell_TakeLine 1000002 (some (p, 0)) W σ _).trans e), fun p' s' xs' h' => by
      obtain ⟨rfl, rfl⟩ := h.uniq h'
      exact hp⟩
  exact ⟨x, hx, hP.2 p s xs h⟩

/-! Done -/
noncomputable def w_vary_Reader_Done (r : Pt) (σ : Heap) : Option (Bool × Heap) := wOf (fun t : Nat × Sl × Bool => r = some (t.1, 0) ∧ Rdr σ t.1 t.2.1 t.2.2) fun t => (!t.2.2 && decide ((t.2.1.n : Int) = 0), σ)
theorem w_vary_Reader_Done_eq {σ : Heap} {p : Nat} {s : Sl} {bad : Bool} (h : Rdr σ p s bad) : w_vary_Reader_Done (some (p, 0)) σ = some (!bad && decide ((s.n : Int) = 0), σ) :=
  wOf_eq (x := (p, s, bad)) ⟨rfl, h⟩ fun y hy => by
    obtain ⟨p', s', bad'⟩ := y
    obtain ⟨e, h'⟩ := hy
    injection e with e
    injection e with e
    subst e
    obtain ⟨rfl, rfl⟩ := h.uniq h'
    rfl
theorem ok_vary_Reader_Done : Ok_vary_Reader_Done w_vary_Reader_Done := fun r σ v σ' h => by
  obtain ⟨⟨p, s, bad⟩, ⟨rfl, hr⟩, e⟩ := wOf_some h
  injection e with e1 e2
  subst e1; subst e2
  refine call_ok ok known0_ok (L := 0) (n := 2) ((vary_Reader_Done_eq 0 (some (p, 0)) σ _).trans ?_)
  simp only [Option.bind_some, hr.cell0, hr.cell1]
  cases bad
  · rfl
  · rfl
end Go.Abs.TA
