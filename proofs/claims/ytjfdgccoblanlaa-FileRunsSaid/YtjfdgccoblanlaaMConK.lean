/-
The model of a store in memory; at, used.
The model: wrong, drop, put.
A model tells what a store is: plain.
The model: put, crash.
The model: crash.
The model: do, the walk.
The model and the store do the same: plain.
-/
import Derived.Test.YtjfdgccoblanlaaMConJ
import Derived.Test.YtjfdgccoblanlaaEqC1
import Derived.Sort.Walk0
import Derived.Test.YtjfdgccoblanlaaLawFC
namespace Go.Abs.TC
open Go Go.Abs Go.Proofs

def eOne : El law04_one := ⟨3, law04_one.cells, fun _ => rfl, fun a b h => by
  cases a; cases b
  simp [law04_one.cells] at h
  obtain ⟨h1, h2, h3⟩ := h
  rw [h1, h2, h3]⟩
instance : El.Flat eOne := ⟨fun _ => rfl⟩
theorem rdw : Mode.rd .rw := trivial
theorem rdo : Mode.rd .ro := trivial
/-- A model. -/
structure MD where
  p : Nat
  sl : Sl
  l : List law04_one
  quota : Int
  left : Int
  down : Bool
def MD.head (m : MD) : List AVal := [.slice m.sl.b m.sl.o m.sl.n 3, .int .i64 m.quota, .int .i64 m.left, .bool m.down]
def MD.foot (m : MD) : List Nat := m.p :: m.sl.b.toList
structure Md (σ : Heap) (mo : Mode) (m : MD) : Prop where
  hd : σ[m.p]? = some (.row m.head mo)
  o : m.sl.o = 0
  n : m.sl.n = m.l.length
  at_ : (m.sl.b = none ∧ m.l = []) ∨ ∃ b, m.sl.b = some b ∧ b ≠ m.p ∧ σ[b]? = some (.row (eOne.all m.l) mo)
  sz : m.l.length ≤ 100000
section
variable {σ σ' : Heap} {mo mo' : Mode} {m m' : MD}
theorem Md.is (hm : Mode.rd mo) (h : Md σ mo m) : m.sl.Is eOne σ m.l := by
  have hs := h.sz
  rcases h.at_ with ⟨h1, h2⟩ | ⟨b, h1, _, h2⟩
  · exact ⟨h.n, by omega, .inl ⟨h1, h.o, h2⟩⟩
  · exact ⟨h.n, by omega, .inr ⟨b, _, h1, row?_rd h2 hm, by rw [h.o, List.drop_zero, List.take_of_length_le (by rw [eOne.all_len]; exact Nat.le_refl _)], by rw [h.o, eOne.all_len]; omega⟩⟩
theorem Md.own (h : Md σ .rw m) : m.sl.Own eOne σ m.l := by
  rcases h.at_ with ⟨h1, h2⟩ | ⟨b, h1, _, h2⟩
  · exact .nil h1 h.o (by rw [h.n, h2]; rfl) h2
  · exact .row b h1 h.o h.n h2
theorem Md.uniq (hm : Mode.rd mo) (hm' : Mode.rd mo') (h : Md σ mo m) (h' : Md σ mo' m') (e : m.p = m'.p) : m = m' := by
  have e1 := h.hd
  have e2 := h'.hd
  rw [← e, e1] at e2
  injection e2 with e2
  injection e2 with e2 _
  have i1 := h.is hm
  have i2 := h'.is hm'
  obtain ⟨p, ⟨b, o, n⟩, l, q, le, dn⟩ := m
  obtain ⟨p', ⟨b', o', n'⟩, l', q', le', dn'⟩ := m'
  simp only [MD.head, List.cons.injEq, AVal.slice.injEq, AVal.int.injEq, AVal.bool.injEq, true_and, and_true] at e2 e
  obtain ⟨⟨a1, a2, a3⟩, a4, a5, a6⟩ := e2
  subst a1; subst a2; subst a3; subst a4; subst a5; subst a6; subst e
  have := i1.uniq (by decide) i2
  simp only at this
  rw [this]
theorem Md.frz (h : Md σ .rw m) : Md σ.frz .ro m :=
  ⟨by rw [Heap.frz_get, h.hd]; rfl, h.o, h.n, h.at_.imp id fun ⟨b, h1, h2, h3⟩ => ⟨b, h1, h2, by rw [Heap.frz_get, h3]; rfl⟩, h.sz⟩
theorem Md.same (h : Md σ mo m) (e : ∀ b ∈ m.foot, σ'[b]? = σ[b]?) : Md σ' mo m :=
  ⟨by rw [e m.p (by simp [MD.foot])]; exact h.hd, h.o, h.n, h.at_.imp id fun ⟨b, h1, h2, h3⟩ => ⟨b, h1, h2, by rw [e b (by simp [MD.foot, h1])]; exact h3⟩, h.sz⟩
theorem Md.foot_lt (h : Md σ mo m) {b : Nat} (hb : b ∈ m.foot) : b < σ.length := by
  rw [MD.foot, List.mem_cons] at hb
  rcases hb with rfl | hb
  · exact (List.getElem?_eq_some_iff.1 h.hd).1
  · rcases h.at_ with ⟨h1, _⟩ | ⟨c, h1, _, h2⟩
    · rw [h1] at hb; simp at hb
    · rw [h1] at hb
      simp at hb
      subst hb
      exact (List.getElem?_eq_some_iff.1 h2).1
theorem Md.pre (h : Md σ mo m) (hp : σ <+: σ') : Md σ' mo m := h.same fun _ hb => get_pre hp (h.foot_lt hb)
theorem Md.cells (hm : Mode.rd mo) (h : Md σ mo m) : slice? (σ.cell? m.p 0) 3 = some (m.sl.b, m.sl.o, m.sl.n) ∧ int? (σ.cell? m.p (0 + 1)) .i64 = some m.quota ∧ int? (σ.cell? m.p (0 + 2)) .i64 = some m.left ∧ bool? (σ.cell? m.p (0 + 3)) = some m.down := by
  have hr := row?_rd h.hd hm
  have hc : ∀ i, σ.cell? m.p i = m.head[i]? := fun i => by unfold Heap.cell?; rw [hr]; rfl
  rw [hc, hc, hc, hc]
  exact ⟨by simp [MD.head, slice?], rfl, rfl, rfl⟩
theorem one_cells {s : Sl} {l : List law04_one} (h : s.Is eOne σ l) {i : Nat} {x : law04_one} (hi : l[i]? = some x) : ∃ b, s.b = some b ∧ str? (σ.cell? b (s.o + i * 3)) = some x.name ∧ str? (σ.cell? b (s.o + i * 3 + 1)) = some x.data ∧ int? (σ.cell? b (s.o + i * 3 + 2)) .i64 = some x.sure := by
  obtain ⟨b, h1, h2⟩ := h.cell hi
  have c0 : σ.cell? b (s.o + i * 3 + 0) = some (.str x.name) := h2 0 (by decide)
  have c1 : σ.cell? b (s.o + i * 3 + 1) = some (.str x.data) := h2 1 (by decide)
  have c2 : σ.cell? b (s.o + i * 3 + 2) = some (.int .i64 x.sure) := h2 2 (by decide)
  rw [Nat.add_zero] at c0
  exact ⟨b, h1, by rw [c0]; rfl, by rw [c1]; rfl, by rw [c2]; rfl⟩
end
/-- A contract that reads a model. -/
noncomputable def mdRd {β : Type} (p : Pt) (f : MD → β) (σ : Heap) : Option (β × Heap) :=
  wOf (fun m : MD => p = some (m.p, 0) ∧ ∃ mo, Mode.rd mo ∧ Md σ mo m) fun m => (f m, σ)
theorem mdRd_eq {β : Type} {f : MD → β} {σ : Heap} {mo : Mode} {m : MD} (hm : Mode.rd mo) (h : Md σ mo m) : mdRd (some (m.p, 0)) f σ = some (f m, σ) :=
  wOf_eq (P := fun e : MD => some (m.p, 0) = some (e.p, 0) ∧ ∃ mo, Mode.rd mo ∧ Md σ mo e) (f := fun e => (f e, σ)) ⟨rfl, mo, hm, h⟩ fun e ⟨h1, mo', hm', h2⟩ => by
    injection h1 with h1
    injection h1 with h1 _
    rw [h.uniq hm hm' h2 h1]
theorem mdRd_some {β : Type} {p : Pt} {f : MD → β} {σ : Heap} {v : β} {σ' : Heap} (h : mdRd p f σ = some (v, σ')) : ∃ m mo, p = some (m.p, 0) ∧ Mode.rd mo ∧ Md σ mo m ∧ v = f m ∧ σ' = σ := by
  obtain ⟨m, ⟨h1, mo, hm, hd⟩, e⟩ := wOf_some h
  injection e with e1 e2
  exact ⟨m, mo, h1, hm, hd, e1.symm, e2.symm⟩

/-! ### at -/
theorem less_eq (a b : ByteArray) : Op.bytesLess a.toList b.toList = decide (bl a < bl b) := by
  rw [ByteArray.toList_eq, ByteArray.toList_eq, Go.Proofs.bytesLess_eq]
  rfl
def lessB (n : ByteArray) (o : law04_one) : Bool := decide (bl o.name < bl n)
def posN (l : List law04_one) (n : ByteArray) : Nat := (l.takeWhile (lessB n)).length
def thereN (l : List law04_one) (n : ByteArray) : Bool := match l[posN l n]? with | some o => decide (o.name = n) | none => false
theorem posN_le (l : List law04_one) (n : ByteArray) : posN l n ≤ l.length := (List.takeWhile_prefix _).length_le
theorem posN_step {l : List law04_one} {n : ByteArray} {i : Nat} (hi : i ≤ posN l n) : (∀ o, l[i]? = some o → lessB n o = true → i + 1 ≤ posN l n) ∧ (∀ o, l[i]? = some o → lessB n o = false → i = posN l n) := by
  have key : ∀ (l : List law04_one) (i : Nat), i ≤ (l.takeWhile (lessB n)).length → (∀ o, l[i]? = some o → lessB n o = true → i + 1 ≤ (l.takeWhile (lessB n)).length) ∧ (∀ o, l[i]? = some o → lessB n o = false → i = (l.takeWhile (lessB n)).length) := fun l => by
    induction l with
    | nil => exact fun i _ => ⟨fun o h => by simp at h, fun o h => by simp at h⟩
    | cons a r ih =>
      intro i hi
      cases ha : lessB n a with
      | false =>
        rw [List.takeWhile_cons, ha] at hi ⊢
        simp at hi
        subst hi
        exact ⟨fun o h h' => (by simp at h; subst h; rw [ha] at h'; cases h'), fun _ _ _ => rfl⟩
      | true =>
        rw [List.takeWhile_cons, ha] at hi ⊢
        simp only [if_true, List.length_cons] at hi ⊢
        cases i with
        | zero => exact ⟨fun _ _ _ => (by omega), fun o h h' => (by simp at h; subst h; rw [ha] at h'; cases h')⟩
        | succ i =>
          obtain ⟨h1, h2⟩ := ih i (by omega)
          simp only [List.getElem?_cons_succ]
          exact ⟨fun o h h' => (by have := h1 o h h'; omega), fun o h h' => (by have := h2 o h h'; omega)⟩
  exact key l i hi
noncomputable def w_law04_model_at (p : Pt) (n : ByteArray) (σ : Heap) : Option ((Int × Bool) × Heap) := mdRd p (fun m => ((posN m.l n : Int), thereN m.l n)) σ
theorem at_loop {L : Nat} {σ : Heap} {mo : Mode} {m : MD} (hm : Mode.rd mo) (h : Md σ mo m) (n : ByteArray) :
    ∀ (k i f : Nat), i + k = m.l.length → k < f → i ≤ posN m.l n → law04_model_at_L2 (R := AVal × Heap) L f (some (m.p, 0)) n (i : Int) σ (fun v σ => some (v, σ)) = some (.tuple [.int .i64 (posN m.l n : Int), .bool (thereN m.l n)], σ)
  | k, i, 0, _, h, _ => by omega
  | 0, i, f + 1, hi, _, hp => by
    obtain ⟨c0, _⟩ := h.cells hm
    have hpl := posN_le m.l n
    have e : i = posN m.l n := by omega
    have ht : thereN m.l n = false := by
      unfold thereN
      rw [List.getElem?_eq_none (by omega)]
    rw [law04_model_at_L2_eq, Option.bind_some]
    dsimp only
    rw [c0, Option.bind_some]
    dsimp only
    rw [h.n, lt_false (by omega), cond_false, Option.bind_some, c0, Option.bind_some]
    dsimp only
    rw [h.n, lt_false (by omega), cond_false, ht, e]
  | k + 1, i, f + 1, hi, hf, hp => by
    obtain ⟨c0, _⟩ := h.cells hm
    have hil : i < m.l.length := by omega
    have hs := h.sz
    have hgi := List.getElem?_eq_getElem hil
    obtain ⟨b, b1, b2, _⟩ := one_cells (h.is hm) hgi
    obtain ⟨st1, st2⟩ := posN_step hp
    rw [law04_model_at_L2_eq, Option.bind_some]
    dsimp only
    rw [c0, Option.bind_some]
    dsimp only
    rw [h.n, lt_true hil, cond_true, Option.bind_some, c0, Option.bind_some]
    dsimp only
    rw [h.n, lt_true hil, dec0, Bool.and_true, cond_true, b1, Option.bind_some, show ((i : Nat) : Int).toNat = i from rfl, b2, Option.bind_some, less_eq]
    cases hl : decide (bl m.l[i].name < bl n) with
    | true =>
      rw [cond_true, wrap_i64_succ i (by omega)]
      exact at_loop hm h n k (i + 1) f (by omega) (by omega) (st1 _ hgi hl)
    | false =>
      have e := st2 _ hgi hl
      have ht : thereN m.l n = decide (m.l[i].name = n) := by
        unfold thereN
        rw [← e, hgi]
      rw [cond_false, Option.bind_some, c0, Option.bind_some]
      dsimp only
      rw [h.n, lt_true hil, cond_true, Option.bind_some, c0, Option.bind_some]
      dsimp only
      rw [h.n, lt_true hil, Bool.and_true, cond_true, b1, Option.bind_some, b2, Option.bind_some, ht, ba_beq, ← e]
theorem ok_law04_model_at : Ok_law04_model_at w_law04_model_at := fun p n σ v σ' h => by
  obtain ⟨m, mo, rfl, hm, hd, rfl, rfl⟩ := mdRd_some h
  exact call_ok ok known0_ok (L := m.l.length + 1) (n := 2) ((law04_model_at_eq (m.l.length + 1) _ n _ _).trans (at_loop hm hd n m.l.length 0 (m.l.length + 1) (by omega) (by omega) (Nat.zero_le _)))

/-! ### used -/
def usedO (l : List law04_one) : Nat := (l.map fun o => o.data.size).sum
noncomputable def w_law04_model_used (p : Pt) (σ : Heap) : Option (Int × Heap) :=
  wOf (fun m : MD => p = some (m.p, 0) ∧ (∃ mo, Mode.rd mo ∧ Md σ mo m) ∧ usedO m.l ≤ 1000000) fun m => ((usedO m.l : Int), σ)
theorem w_law04_model_used_eq {σ : Heap} {mo : Mode} {m : MD} (hm : Mode.rd mo) (h : Md σ mo m) (hu : usedO m.l ≤ 1000000) : w_law04_model_used (some (m.p, 0)) σ = some ((usedO m.l : Int), σ) :=
  wOf_eq (P := fun e : MD => some (m.p, 0) = some (e.p, 0) ∧ (∃ mo, Mode.rd mo ∧ Md σ mo e) ∧ usedO e.l ≤ 1000000) (f := fun m => ((usedO m.l : Int), σ)) ⟨rfl, ⟨mo, hm, h⟩, hu⟩ fun e ⟨h1, ⟨mo', hm', h2⟩, _⟩ => by
    injection h1 with h1
    injection h1 with h1 _
    rw [h.uniq hm hm' h2 h1]
theorem used_loop {L : Nat} {σ : Heap} {mo : Mode} {m : MD} (hm : Mode.rd mo) (h : Md σ mo m) (hu : usedO m.l ≤ 1000000) :
    ∀ (k i f : Nat), i + k = m.l.length → k < f → law04_model_used_L3 (R := AVal × Heap) L f (usedO (m.l.take i) : Int) (m.sl.b, m.sl.o, m.sl.n) (i : Int) σ (fun v σ => some (v, σ)) = some (.int .i64 (usedO m.l : Int), σ)
  | k, i, 0, _, h => by omega
  | 0, i, f + 1, hi, _ => by
    rw [law04_model_used_L3_eq]
    dsimp only
    rw [h.n, lt_false (by omega), cond_false, List.take_of_length_le (by omega)]
  | k + 1, i, f + 1, hi, hf => by
    have hil : i < m.l.length := by omega
    have hs := h.sz
    have hgi := List.getElem?_eq_getElem hil
    obtain ⟨b, b1, b2, b3, b4⟩ := one_cells (h.is hm) hgi
    have hsum : usedO (m.l.take (i + 1)) = usedO (m.l.take i) + m.l[i].data.size := by
      rw [List.take_succ_eq_append_getElem hil]
      unfold usedO
      rw [List.map_append, List.sum_append]
      simp
    have hle : usedO (m.l.take (i + 1)) ≤ usedO m.l := by
      have : usedO (m.l.take (i + 1)) + usedO (m.l.drop (i + 1)) = usedO m.l := by
        unfold usedO
        rw [← List.sum_append, ← List.map_append, List.take_append_drop]
      omega
    rw [law04_model_used_L3_eq]
    dsimp only
    rw [h.n, lt_true hil, cond_true, dec0, Bool.and_true, cond_true, b1, Option.bind_some, show ((i : Nat) : Int).toNat = i from rfl, b2, Option.bind_some, b3, Option.bind_some, b4, Option.bind_some, wrap_i64_succ i (by omega), show (usedO (m.l.take i) : Int) + (m.l[i].data.size : Int) = ((usedO (m.l.take (i + 1)) : Nat) : Int) by omega, wrap_i64_nat _ (by omega)]
    have := used_loop (L := L) hm h hu k (i + 1) f (by omega) (by omega)
    rw [h.n, b1] at this
    exact this
theorem ok_law04_model_used : Ok_law04_model_used w_law04_model_used := fun p σ v σ' hw => by
  obtain ⟨m, ⟨rfl, ⟨mo, hm, h⟩, hu⟩, e⟩ := wOf_some hw
  injection e with e1 e2
  subst e1; subst e2
  obtain ⟨c0, _⟩ := h.cells hm
  refine call_ok ok known0_ok (L := m.l.length + 1) (n := 2) ((law04_model_used_eq (m.l.length + 1) _ _ _).trans ?_)
  rw [Option.bind_some]
  dsimp only
  rw [c0, Option.bind_some]
  exact used_loop (L := m.l.length + 1) hm h hu m.l.length 0 (m.l.length + 1) (by omega) (by omega)
end Go.Abs.TC
namespace Go.Abs.TC
open Go Go.Abs Go.Proofs

/-! ### wrong -/
def wrongV (m : MD) (k : Int) (n to : ByteArray) (len : Nat) (there : Bool) : Int :=
  if m.down then 8 else if k < 2 ∧ nameOk n = false then 3 else if k = 3 ∧ nameOk to = false then 3 else if k < 2 ∧ (m.quota : Int) < usedO m.l + len then 5 else if 2 ≤ k ∧ there = false then 4 else 0
noncomputable def w_law04_model_wrong (p : Pt) (c : law04_Call) (there : Bool) (σ : Heap) : Option (Int × Heap) :=
  wOf (fun m : MD => p = some (m.p, 0) ∧ Md σ .rw m ∧ usedO m.l ≤ 1000000 ∧ c.Data.n ≤ 1000000) fun m => (wrongV m (kindI c.Kind) c.Name c.To c.Data.n there, σ)
theorem w_law04_model_wrong_eq {σ : Heap} {m : MD} {c : law04_Call} {there : Bool} (h : Md σ .rw m) (hu : usedO m.l ≤ 1000000) (hd : c.Data.n ≤ 1000000) : w_law04_model_wrong (some (m.p, 0)) c there σ = some (wrongV m (kindI c.Kind) c.Name c.To c.Data.n there, σ) :=
  wOf_eq (P := fun e : MD => some (m.p, 0) = some (e.p, 0) ∧ Md σ .rw e ∧ usedO e.l ≤ 1000000 ∧ c.Data.n ≤ 1000000) (f := fun m => (wrongV m (kindI c.Kind) c.Name c.To c.Data.n there, σ)) ⟨rfl, h, hu, hd⟩ fun e ⟨h1, h2, _⟩ => by
    injection h1 with h1
    injection h1 with h1 _
    rw [h.uniq rdw rdw h2 h1]
noncomputable def c_law04_model_wrong : C_law04_model_wrong := { law04_Call_kind := w_law04_Call_kind, law04_right := w_law04_right, law04_model_used := w_law04_model_used }
theorem ok_law04_model_wrong : Ok_law04_model_wrong w_law04_model_wrong := fun p c there σ v σ' hw => by
  obtain ⟨m, ⟨rfl, h, hu, hd⟩, e⟩ := wOf_some hw
  injection e with e1 e2
  subst e1; subst e2
  have p1 : c_law04_model_wrong.law04_Call_kind = w_law04_Call_kind := rfl
  have p2 : c_law04_model_wrong.law04_right = w_law04_right := rfl
  have p3 : c_law04_model_wrong.law04_model_used = w_law04_model_used := rfl
  obtain ⟨_, c1, _, c3⟩ := h.cells rdw
  have hus := w_law04_model_used_eq (mo := .ro) rdo h.frz hu
  refine call_ok ok (K_law04_model_wrong c_law04_model_wrong ok_law04_Call_kind ok_law04_right ok_law04_model_used) (L := 0) (n := 2) ((law04_model_wrong_eq c_law04_model_wrong 0 _ c there σ _).trans ?_)
  rw [p1, p2, p3, w_law04_Call_kind, Option.bind_some]
  dsimp only
  rw [Option.bind_some]
  dsimp only
  rw [c3, Option.bind_some]
  unfold wrongV
  cases hdn : m.down with
  | true => rw [cond_true, if_pos rfl]; rfl
  | false =>
    rw [cond_false, if_neg (by decide)]
    by_cases k2 : kindI c.Kind < 2
    · have k3 : (kindI c.Kind == 3) = false := by simp; omega
      have k3' : ¬ kindI c.Kind = 3 := by omega
      rw [decide_eq_true k2, cond_true, w_law04_right, Option.bind_some]
      dsimp only
      cases hn : nameOk c.Name with
      | false => rw [Bool.not_false, cond_true, if_pos ⟨k2, rfl⟩]; rfl
      | true =>
        rw [Bool.not_true, cond_false, if_neg (by simp), k3, cond_false, cond_true, if_neg (fun h => k3' h.1), hus, Option.bind_some]
        dsimp only
        rw [Heap.back_frz, Option.bind_some]
        dsimp only
        rw [c1, Option.bind_some, wrap_i64_of (by omega) (by omega)]
        by_cases hq : (m.quota : Int) < usedO m.l + c.Data.n
        · rw [decide_eq_true (show (usedO m.l : Int) + (c.Data.n : Int) > m.quota from hq), cond_true, if_pos ⟨k2, hq⟩]; rfl
        · rw [decide_eq_false (show ¬ (usedO m.l : Int) + (c.Data.n : Int) > m.quota from hq), cond_false, if_neg (fun h => hq h.2), decide_eq_false (show ¬ kindI c.Kind ≥ 2 by omega), cond_false, if_neg (fun h => absurd h.1 (by omega))]; rfl
    · have e2 : decide (kindI c.Kind ≥ 2) = true := decide_eq_true (by omega)
      rw [decide_eq_false k2, cond_false, if_neg (fun h => k2 h.1)]
      by_cases k3 : kindI c.Kind = 3
      · rw [show (kindI c.Kind == 3) = true by simpa using k3, cond_true, w_law04_right, Option.bind_some]
        dsimp only
        cases hn : nameOk c.To with
        | false => rw [Bool.not_false, cond_true, if_pos ⟨k3, rfl⟩]; rfl
        | true =>
          rw [Bool.not_true, cond_false, if_neg (by simp), cond_false, e2, cond_true, if_neg (fun h => k2 h.1)]
          cases there with
          | false => rw [Bool.not_false, cond_true, if_pos ⟨by omega, rfl⟩]; rfl
          | true => rw [Bool.not_true, cond_false, if_neg (by simp)]; rfl
      · rw [show (kindI c.Kind == 3) = false by simpa using k3, cond_false, cond_false, e2, cond_true, if_neg (fun h => k3 h.1), if_neg (fun h => k2 h.1)]
        cases there with
        | false => rw [Bool.not_false, cond_true, if_pos ⟨by omega, rfl⟩]; rfl
        | true => rw [Bool.not_true, cond_false, if_neg (by simp)]; rfl

/-! ### What a call leaves of a model -/
structure MFr (σ : Heap) (m : MD) (σ' : Heap) (m' : MD) : Prop where
  len : σ.length ≤ σ'.length
  at_ : ∀ b, b < σ.length → b ∉ m.foot → σ'[b]? = σ[b]?
  foot : ∀ b ∈ m'.foot, b ∈ m.foot ∨ σ.length ≤ b
  p : m'.p = m.p
theorem MFr.refl {σ : Heap} {m : MD} : MFr σ m σ m := ⟨Nat.le_refl _, fun _ _ _ => rfl, fun _ h => .inl h, rfl⟩
theorem MFr.trans {σ σ' σ'' : Heap} {m m' m'' : MD} (h : MFr σ m σ' m') (k : MFr σ' m' σ'' m'') : MFr σ m σ'' m'' where
  len := Nat.le_trans h.len k.len
  at_ := fun b hb hn => (k.at_ b (Nat.lt_of_lt_of_le hb h.len) fun hm => (h.foot b hm).elim hn fun hl => by omega).trans (h.at_ b hb hn)
  foot := fun b hb => (k.foot b hb).elim (h.foot b) fun hl => .inr (Nat.le_trans h.len hl)
  p := k.p.trans h.p
theorem MFr.of_pre {σ σ' : Heap} {m : MD} (hp : σ <+: σ') : MFr σ m σ' m := ⟨hp.length_le, fun _ hb _ => get_pre hp hb, fun _ h => .inl h, rfl⟩
noncomputable def mdRel {β : Type} (F : FuncId) (args : List AVal) (av : β → AVal) (p : Pt) (op : MD → Option (β × (MD → Prop))) (σ : Heap) : Option (β × Heap) :=
  wRel fun v σ' => CallOK Try.prog T F args σ (av v) σ' ∧ ∀ m r, p = some (m.p, 0) → Md σ .rw m → op m = some r → v = r.1 ∧ ∃ m', Md σ' .rw m' ∧ MFr σ m σ' m' ∧ r.2 m'
section
variable {β : Type} {F : FuncId} {args : List AVal} {av : β → AVal} {p : Pt} {op : MD → Option (β × (MD → Prop))} {σ σ' : Heap} {m : MD} {v : β} {r : β × (MD → Prop)}
theorem mdRel_ok (h : mdRel F args av p op σ = some (v, σ')) : CallOK Try.prog T F args σ (av v) σ' := (wRel_some h).1
theorem mdRel_ex (hd : Md σ .rw m) (hop : op m = some r) (hc : ∃ σ' m', CallOK Try.prog T F args σ (av r.1) σ' ∧ Md σ' .rw m' ∧ MFr σ m σ' m' ∧ r.2 m') :
    ∃ σ' m', mdRel F args av (some (m.p, 0)) op σ = some (r.1, σ') ∧ Md σ' .rw m' ∧ MFr σ m σ' m' ∧ r.2 m' := by
  obtain ⟨σ', m', h1, h2, h3, h4⟩ := hc
  obtain ⟨x, hx, _, h6⟩ := wRel_ex (P := fun v σ' => CallOK Try.prog T F args σ (av v) σ' ∧ ∀ m1 r, some (m.p, 0) = some (m1.p, 0) → Md σ .rw m1 → op m1 = some r → v = r.1 ∧ ∃ m', Md σ' .rw m' ∧ MFr σ m1 σ' m' ∧ r.2 m') (v := r.1) (σ := σ')
    ⟨h1, fun m1 r1 e1 g1 g2 => by
      injection e1 with e1
      injection e1 with e1 _
      obtain rfl := hd.uniq rdw rdw g1 e1
      rw [hop] at g2
      injection g2 with g2
      subst g2
      exact ⟨rfl, m', h2, h3, h4⟩⟩
  obtain ⟨g1, m2, g2, g3, g4⟩ := h6 m r rfl hd hop
  refine ⟨x.2, m2, ?_, g2, g3, g4⟩
  unfold mdRel
  rw [hx, ← g1]
end
theorem md_store {σ : Heap} {m : MD} (h : Md σ .rw m) (o : Nat) (v : AVal) (ho : o < 4) : σ.store m.p o [v] = some (σ.set m.p (.row (m.head.set o v) .rw)) := by
  unfold Heap.store
  rw [h.hd]
  simp only [List.length_cons, List.length_nil]
  rw [if_pos (by simp [MD.head]; omega)]
  rfl
/-- The head turns. -/
theorem Md.setHead {σ : Heap} {m : MD} (h : Md σ .rw m) (q l : Int) (dn : Bool) :
    Md (σ.set m.p (.row (MD.head { m with quota := q, left := l, down := dn }) .rw)) .rw { m with quota := q, left := l, down := dn } ∧ MFr σ m (σ.set m.p (.row (MD.head { m with quota := q, left := l, down := dn }) .rw)) { m with quota := q, left := l, down := dn } := by
  have hlt := (List.getElem?_eq_some_iff.1 h.hd).1
  refine ⟨⟨by simp [hlt], h.o, h.n, h.at_.imp id fun ⟨b, h1, h2, h3⟩ => ⟨b, h1, h2, by rw [List.getElem?_set_ne (Ne.symm h2)]; exact h3⟩, h.sz⟩, ⟨by simp, fun b _ hn => List.getElem?_set_ne (fun e => hn (by simp [MD.foot, e])), fun b hb => .inl hb, rfl⟩⟩
/-- A list of its own is put in. -/
theorem Md.setList {σ σ' : Heap} {m : MD} (h : Md σ .rw m) (hp : ∀ b, b < σ.length → σ'[b]? = σ[b]?) (hl : σ.length ≤ σ'.length) {s : Sl} {l : List law04_one} (hs : s.Own eOne σ' l) (hn : ∀ c, s.b = some c → σ.length ≤ c) (hsz : l.length ≤ 100000) :
    ∃ σ'', σ'.store m.p 0 [.slice s.b s.o s.n 3] = some σ'' ∧ Md σ'' .rw { m with sl := s, l := l } ∧ MFr σ m σ'' { m with sl := s, l := l } := by
  have hlt := (List.getElem?_eq_some_iff.1 h.hd).1
  have hd' : σ'[m.p]? = some (.row m.head .rw) := by rw [hp _ hlt]; exact h.hd
  refine ⟨σ'.set m.p (.row (MD.head { m with sl := s, l := l }) .rw), ?_, ⟨?_, ?_, hs.len, ?_, hsz⟩, ⟨by simp; exact hl, fun b hb hnf => ?_, fun b hb => ?_, rfl⟩⟩
  · unfold Heap.store
    rw [hd']
    simp only [List.length_cons, List.length_nil]
    rw [if_pos (by simp [MD.head])]
    rfl
  · rw [List.getElem?_set_self (Nat.lt_of_lt_of_le hlt hl)]
  · cases hs with
    | nil hb ho hn hx => exact ho
    | row b hb ho hn hr => exact ho
  · cases hs with
    | nil hb ho hn hx => exact .inl ⟨hb, hx⟩
    | row b hb ho hn' hr =>
      have := hn b hb
      refine .inr ⟨b, hb, show b ≠ m.p by omega, ?_⟩
      rw [List.getElem?_set_ne (show m.p ≠ b by omega)]
      exact hr
  · rw [List.getElem?_set_ne (fun e => hnf (by simp [MD.foot, e]))]
    exact hp b hb
  · simp only [MD.foot, List.mem_cons] at hb ⊢
    rcases hb with rfl | hb
    · exact .inl (.inl rfl)
    · cases hsb : s.b with
      | none => rw [hsb] at hb; simp at hb
      | some c => rw [hsb] at hb; simp at hb; subst hb; exact .inr (hn _ hsb)
/-- A copy, made in a drawn region. -/
theorem append_first {α : Type} {E : El α} (σ : Heap) (xs : List α) {bytes : Nat} (hb1 : xs.length * bytes ≤ 70368744177664) (hb2 : xs.length ≤ 70368744177664) :
    ∃ q σ', σ.frz.append none 0 0 E.z bytes (E.all xs) xs.length = some (q, σ') ∧ Sl.Own ⟨q.1, q.2.1, q.2.2⟩ E (σ.back σ') xs ∧ σ <+: σ.back σ' ∧ ∀ c, q.1 = some c → σ.length ≤ c := by
  unfold Heap.append
  split
  · rename_i h0
    obtain rfl := List.eq_nil_of_length_eq_zero h0
    exact ⟨_, _, rfl, by rw [Heap.back_frz]; exact .nil rfl rfl rfl rfl, by rw [Heap.back_frz]; exact List.prefix_rfl, fun c hc => by cases hc⟩
  · rw [if_pos ⟨by rw [Nat.zero_add]; exact hb1, by rw [Nat.zero_add]; exact hb2, E.all_len xs⟩]
    refine ⟨_, _, rfl, ?_, ?_, fun c hc => ?_⟩
    · rw [back_frz_append, len_frz]; exact .row σ.length rfl rfl rfl (get_push ..)
    · rw [back_frz_append]; exact List.prefix_append _ _
    · injection hc with hc; rw [len_frz] at hc; omega

/-! ### drop -/
noncomputable def w_law04_model_drop (p : Pt) (i : Int) (σ : Heap) : Option (Unit × Heap) :=
  mdRel 48 [.ptr p, .int .i64 i] tVoid.av p (fun m => if 0 ≤ i ∧ i < m.l.length then some ((), fun m' => m' = { m with sl := m'.sl, l := m.l.eraseIdx i.toNat }) else none) σ
theorem ok_law04_model_drop : Ok_law04_model_drop w_law04_model_drop := fun _ _ _ _ _ h => mdRel_ok h
theorem w_law04_model_drop_ex {σ : Heap} {m : MD} (h : Md σ .rw m) {i : Nat} (hi : i < m.l.length) :
    ∃ σ' m', w_law04_model_drop (some (m.p, 0)) (i : Int) σ = some ((), σ') ∧ Md σ' .rw m' ∧ MFr σ m σ' m' ∧ m' = { m with sl := m'.sl, l := m.l.eraseIdx i } := by
  refine mdRel_ex (op := fun m => if 0 ≤ (i : Int) ∧ (i : Int) < m.l.length then some ((), fun m' => m' = { m with sl := m'.sl, l := m.l.eraseIdx (i : Int).toNat }) else none) (r := ((), fun m' => m' = { m with sl := m'.sl, l := m.l.eraseIdx i })) h (by rw [if_pos (by omega)]; rfl) ?_
  have hs := h.sz
  have hI := h.is (mo := .rw) rdw
  have hI' := h.frz.is (mo := .ro) rdo
  obtain ⟨c0, _⟩ := h.cells rdw
  have hr := law04_model_drop_eq (R := AVal × Heap) 0 (some (m.p, 0)) (i : Int) σ fun v σ => some (v, σ)
  have r1 := hI'.readn (m := i) (by omega)
  have hz : eOne.z = 3 := rfl
  rw [hz] at r1
  have htl : (m.l.take i).length = i := by rw [List.length_take]; omega
  obtain ⟨q, σ1, a1, a2, a3, a4⟩ := append_first (E := eOne) σ (m.l.take i) (bytes := 40) (by rw [htl]; omega) (by rw [htl]; omega)
  rw [htl, hz] at a1
  rw [Option.bind_some] at hr
  dsimp only at hr
  rw [c0, Option.bind_some] at hr
  dsimp only at hr
  rw [h.n, dec0, decide_eq_true (show (i : Int) ≤ (m.l.length : Int) by omega), Bool.true_and, cond_true, show ((i : Nat) : Int).toNat = i from rfl, r1, Option.bind_some, a1, Option.bind_some, Option.bind_some] at hr
  dsimp only at hr
  obtain ⟨d0, _⟩ := (h.pre a3).cells rdw
  rw [d0, Option.bind_some, wrap_i64_succ i (by omega)] at hr
  dsimp only at hr
  have hI1 := (hI.pre a3).drop (k := i + 1) (by omega)
  have r2 := hI1.read
  rw [hz] at r2
  dsimp only at r2
  rw [h.n] at r2 hr
  rw [dec0, decide_eq_true (show ((i + 1 : Nat) : Int) ≤ (m.l.length : Int) by omega), decide_eq_true (show (m.l.length : Int) ≤ (m.l.length : Int) by omega), show (true && true && true) = true from rfl, cond_true, show ((i + 1 : Nat) : Int).toNat = i + 1 from rfl, r2, Option.bind_some] at hr
  obtain ⟨v, σ2, b1, b2, b3, b4⟩ := append_own (ys := m.l.drop (i + 1)) a2 (bytes := 40) (vs := eOne.all (m.l.drop (i + 1))) (k := m.l.length - (i + 1)) rfl (by rw [List.length_drop]) (by rw [htl, List.length_drop]; omega) (by rw [htl, List.length_drop]; omega)
  rw [hz] at b1
  dsimp only at b1
  rw [b1, Option.bind_some, Option.bind_some] at hr
  dsimp only at hr
  have l1 := a3.length_le
  have l2 := b3.len
  rw [← List.eraseIdx_eq_take_drop_succ] at b2
  obtain ⟨σ3, e1, e2, e3⟩ := h.setList (σ' := σ2) (fun b hb => (b3.at_ b (by omega) (fun e => by have := a4 b e; omega)).trans (get_pre a3 hb)) (by omega) b2
    (fun c hc => by
      rcases b4 c hc with h | h
      · exact a4 c h
      · omega)
    (by rw [List.length_eraseIdx]; split <;> omega)
  dsimp only at e1
  rw [e1, Option.bind_some] at hr
  exact ⟨σ3, _, call_ok ok known0_ok hr, e2, e3, rfl⟩
end Go.Abs.TC
namespace Go.Abs.TC
open Go Go.Abs Go.Proofs

def oneOf (f : Fil) : law04_one := ⟨f.name, ⟨f.data.toArray⟩, (f.sure : Int)⟩
def Asc (l : List law04_one) : Prop := (l.map fun o => bl o.name).Pairwise (· < ·)
structure View (fs : List Fil) (l : List law04_one) : Prop where
  perm : l.Perm (fs.map oneOf)
  asc : Asc l
theorem getK_split {n : ByteArray} {f : Fil} : ∀ {fs : List Fil}, getK Fil.name n fs = some f → ∃ r, fs.Perm (f :: r) ∧ (∀ x : Fil, x.name = n → (putK Fil.name x fs).Perm (x :: r)) ∧ (delK Fil.name n fs).Perm r
  | [], h => by cases h
  | g :: t, h => by
    simp only [getK] at h
    split at h
    · rename_i e
      injection h with h
      subst h
      refine ⟨t, List.Perm.refl _, fun x hx => ?_, ?_⟩
      · simp only [putK]; rw [if_pos (e.trans hx.symm)]
      · simp only [delK]; rw [if_pos e]
    · rename_i e
      obtain ⟨r, h1, h2, h3⟩ := getK_split h
      refine ⟨g :: r, (h1.cons g).trans (List.Perm.swap ..), fun x hx => ?_, ?_⟩
      · simp only [putK]; rw [if_neg (by rw [hx]; exact e)]
        exact ((h2 x hx).cons g).trans (List.Perm.swap ..)
      · simp only [delK]; rw [if_neg e]
        exact h3.cons g
theorem bl_inj {a b : ByteArray} (h : bl a = bl b) : a = b := by rw [← lb_bl a, ← lb_bl b, h]
theorem asc_cons {a : law04_one} {l : List law04_one} : Asc (a :: l) ↔ (∀ o ∈ l, bl a.name < bl o.name) ∧ Asc l := by
  unfold Asc
  rw [List.map_cons, List.pairwise_cons]
  simp
theorem posN_at {n : ByteArray} : ∀ {l : List law04_one} {j : Nat} {o : law04_one}, Asc l → l[j]? = some o → o.name = n → posN l n = j
  | [], j, o, _, h, _ => by simp at h
  | a :: l, 0, o, hA, h, hn => by
    simp at h
    subst h
    have : lessB n a = false := by unfold lessB; rw [hn]; exact decide_eq_false (List.lt_irrefl _)
    unfold posN
    rw [List.takeWhile_cons, this]
    rfl
  | a :: l, j + 1, o, hA, h, hn => by
    rw [asc_cons] at hA
    rw [List.getElem?_cons_succ] at h
    have : lessB n a = true := by unfold lessB; rw [← hn]; exact decide_eq_true (hA.1 o (List.mem_of_getElem? h))
    have ih := posN_at hA.2 h hn
    unfold posN at ih ⊢
    rw [List.takeWhile_cons, this]
    simp [ih]
section
variable {fs : List Fil} {l : List law04_one} {n : ByteArray} {f x : Fil}
theorem View.has (h : View fs l) (hg : getK Fil.name n fs = some f) : l[posN l n]? = some (oneOf f) ∧ thereN l n = true := by
  have hm : oneOf f ∈ l := h.perm.mem_iff.2 (List.mem_map_of_mem (getK_mem hg).1)
  obtain ⟨j, hj⟩ := List.mem_iff_getElem?.1 hm
  have hn : (oneOf f).name = n := (getK_mem hg).2
  have e := posN_at h.asc hj hn
  refine ⟨by rw [e]; exact hj, ?_⟩
  unfold thereN
  rw [e, hj]
  exact decide_eq_true hn
theorem View.hasnt (h : View fs l) (hg : getK Fil.name n fs = none) : thereN l n = false ∧ ∀ o ∈ l, o.name ≠ n := by
  have hm : ∀ o ∈ l, o.name ≠ n := fun o ho => by
    obtain ⟨g, hg', rfl⟩ := List.mem_map.1 (h.perm.mem_iff.1 ho)
    exact getK_none.1 hg g hg'
  refine ⟨?_, hm⟩
  unfold thereN
  cases ho : l[posN l n]? with
  | none => rfl
  | some o => exact decide_eq_false (hm o (List.mem_of_getElem? ho))
theorem erase_perm {α : Type} {l : List α} {i : Nat} {y : α} (h : l[i]? = Option.some y) : l.Perm (y :: l.eraseIdx i) ∧ ∀ z, (l.set i z).Perm (z :: l.eraseIdx i) := by
  have hi := (List.getElem?_eq_some_iff.1 h).1
  have e : l = l.take i ++ y :: l.drop (i + 1) := by
    have := (List.getElem?_eq_some_iff.1 h).2
    rw [← this, ← List.drop_eq_getElem_cons hi, List.take_append_drop]
  refine ⟨?_, fun z => ?_⟩
  · rw [List.eraseIdx_eq_take_drop_succ]
    conv => lhs; rw [e]
    exact List.perm_middle
  · rw [List.eraseIdx_eq_take_drop_succ, List.set_eq_take_append_cons_drop, if_pos hi]
    exact List.perm_middle
theorem View.erased (h : View fs l) (hg : getK Fil.name n fs = some f) {r : List Fil} (hr : fs.Perm (f :: r)) : (l.eraseIdx (posN l n)).Perm (r.map oneOf) := by
  have h1 := (erase_perm (h.has hg).1).1
  have h2 := h1.symm.trans (h.perm.trans (hr.map oneOf))
  rw [List.map_cons] at h2
  exact h2.cons_inv
theorem View.set (h : View fs l) (hg : getK Fil.name n fs = some f) (hx : x.name = n) : View (putK Fil.name x fs) (l.set (posN l n) (oneOf x)) := by
  obtain ⟨r, h1, h2, _⟩ := getK_split hg
  refine ⟨((erase_perm (h.has hg).1).2 (oneOf x)).trans (((h.erased hg h1).cons _).trans ((h2 x hx).map oneOf).symm), ?_⟩
  have e : (l.set (posN l n) (oneOf x)).map (fun o => bl o.name) = l.map fun o => bl o.name := by
    apply List.ext_getElem?
    intro i
    rw [List.getElem?_map, List.getElem?_map, List.getElem?_set]
    split
    · rename_i e
      subst e
      have hs := (h.has hg).1
      rw [if_pos (List.getElem?_eq_some_iff.1 hs).1, hs]
      have : f.name = n := (getK_mem hg).2
      simp [oneOf, hx, this]
    · rfl
  unfold Asc
  rw [e]
  exact h.asc
theorem View.del (h : View fs l) (hg : getK Fil.name n fs = some f) : View (delK Fil.name n fs) (l.eraseIdx (posN l n)) := by
  obtain ⟨r, h1, _, h3⟩ := getK_split hg
  exact ⟨(h.erased hg h1).trans (h3.map oneOf).symm, List.Pairwise.sublist ((List.eraseIdx_sublist l _).map _) h.asc⟩
theorem asc_ins {y : law04_one} (hy : y.name = n) : ∀ {l : List law04_one}, Asc l → (∀ o ∈ l, o.name ≠ n) → Asc (l.take (posN l n) ++ y :: l.drop (posN l n))
  | [], _, _ => by simp [Asc, posN]
  | a :: l, hA, hne => by
    have hA' := asc_cons.1 hA
    cases ha : lessB n a with
    | true =>
      have ih := asc_ins hy hA'.2 (fun o ho => hne o (List.mem_cons_of_mem _ ho))
      have e : posN (a :: l) n = posN l n + 1 := by unfold posN; rw [List.takeWhile_cons, ha]; simp
      rw [e, List.take_succ_cons, List.drop_succ_cons, List.cons_append, asc_cons]
      refine ⟨fun o ho => ?_, ih⟩
      rw [List.mem_append, List.mem_cons] at ho
      rcases ho with ho | rfl | ho
      · exact hA'.1 o (List.mem_of_mem_take ho)
      · rw [hy]; exact of_decide_eq_true ha
      · exact hA'.1 o (List.mem_of_mem_drop ho)
    | false =>
      have e : posN (a :: l) n = 0 := by unfold posN; rw [List.takeWhile_cons, ha]; rfl
      have h1 : ¬ bl a.name < bl n := of_decide_eq_false ha
      have h2 : bl n < bl a.name := by
        apply Decidable.byContradiction
        intro h3
        exact hne a List.mem_cons_self (bl_inj (List.le_antisymm (List.not_lt.1 h3) (List.not_lt.1 h1)))
      rw [e, List.take_zero, List.drop_zero, List.nil_append, asc_cons, hy]
      refine ⟨fun o ho => ?_, hA⟩
      rcases List.mem_cons.1 ho with rfl | ho
      · exact h2
      · exact List.lt_trans h2 (hA'.1 o ho)
theorem View.ins (h : View fs l) (hg : getK Fil.name n fs = Option.none) (hx : x.name = n) : View (putK Fil.name x fs) (l.take (posN l n) ++ oneOf x :: l.drop (posN l n)) := by
  refine ⟨?_, asc_ins (show (oneOf x).name = n from hx) h.asc (h.hasnt hg).2⟩
  have h1 : (l.take (posN l n) ++ oneOf x :: l.drop (posN l n)).Perm (oneOf x :: l) := by
    have := List.perm_middle (a := oneOf x) (l₁ := l.take (posN l n)) (l₂ := l.drop (posN l n))
    rw [List.take_append_drop] at this
    exact this
  rw [putK_none (by rw [hx]; exact hg), List.map_append]
  refine h1.trans ((h.perm.cons _).trans ?_)
  exact (List.perm_append_comm (l₁ := [oneOf x]) (l₂ := fs.map oneOf))
theorem View.names (h : View fs l) : l.map law04_one.name = sortN (fs.map Fil.name) := by
  have p : (l.map fun o => bl o.name).Perm ((fs.map Fil.name).map bl) := by
    have := h.perm.map (fun o => bl o.name)
    rw [List.map_map] at this ⊢
    exact this
  have e : (l.map fun o => bl o.name) = ((fs.map Fil.name).map bl).mergeSort leB := by
    rw [← mergeSort_of_perm p]
    refine (List.mergeSort_of_pairwise (h.asc.imp fun {a b} hab => ?_)).symm
    exact decide_eq_true (List.le_of_lt hab)
  unfold sortN
  rw [← e, List.map_map]
  apply List.map_congr_left
  intro o _
  exact (lb_bl _).symm
theorem View.used (h : View fs l) : usedO l = usedL fs := by
  unfold usedO usedL
  have := (h.perm.map fun o => o.data.size).sum_nat
  rw [this, List.map_map]
  congr 1
theorem View.len (h : View fs l) : l.length = fs.length := by rw [h.perm.length_eq, List.length_map]
end
/-! ### A crash -/
def crashO (more : Nat) (o : law04_one) : law04_one :=
  ⟨o.name, o.data.extract 0 (min (o.sure.toNat + more) o.data.size), ((min (o.sure.toNat + more) o.data.size : Nat) : Int)⟩
theorem crashO_one {f : Fil} (more : Nat) (h : f.sure ≤ f.data.length) : crashO more (oneOf f) = oneOf (crashF more f) := by
  have e : min (f.sure + more) f.data.length = crashN more f := by unfold crashN; omega
  have hsz : (⟨f.data.toArray⟩ : ByteArray).size = f.data.length := by simp [ByteArray.size]
  unfold crashO oneOf
  simp only [Int.toNat_natCast, hsz, e]
  congr 1
  apply ByteArray.ext
  simp [crashF]
def crashL (ks : List Int) : Nat → Nat → List law04_one → List law04_one
  | 0, _, l => l
  | k + 1, i, l => crashL ks k (i + 1) (match l[i]? with | some o => l.set i (crashO (keepAt ks i) o) | none => l)
theorem View.crash (ks : List Int) : ∀ {ns : List ByteArray} {i : Nat} {fs : List Fil} {l : List law04_one}, View fs l → (∀ f ∈ fs, f.sure ≤ f.data.length) → (l.map law04_one.name).drop i = ns → View (crashGo ks ns i fs) (crashL ks ns.length i l)
  | [], i, fs, l, h, _, _ => h
  | n :: ns, i, fs, l, h, hs, e => by
    have hi : i < l.length := by
      have := congrArg List.length e
      simp at this
      omega
    have hn : (l.map law04_one.name)[i]? = some n := by
      have : ((l.map law04_one.name).drop i)[0]? = some n := by rw [e]; rfl
      rw [List.getElem?_drop] at this
      simpa using this
    have e' : (l.map law04_one.name).drop (i + 1) = ns := by
      rw [← List.drop_drop, e]; rfl
    rw [List.getElem?_map] at hn
    obtain ⟨o, ho, hon⟩ := Option.map_eq_some_iff.1 hn
    obtain ⟨f, hf, rfl⟩ := List.mem_map.1 (h.perm.mem_iff.1 (List.mem_of_getElem? ho))
    have hfn : f.name = n := hon
    cases hg : getK Fil.name n fs with
    | none => exact absurd hfn (getK_none.1 hg f hf)
    | some g =>
      obtain ⟨h1, _⟩ := h.has hg
      have hp := posN_at h.asc ho hfn
      rw [hp, ho] at h1
      injection h1 with h1
      rw [crashGo, List.length_cons, crashL, ho]
      dsimp only
      have hsg := hs g (getK_mem hg).1
      rw [h1, crashO_one _ hsg]
      have hV := h.set (x := crashF (keepAt ks i) g) hg (getK_mem hg).2
      rw [hp] at hV
      have hc : crash1 (keepAt ks i) n fs = putK Fil.name (crashF (keepAt ks i) g) fs := by unfold crash1; rw [hg]
      rw [hc]
      refine View.crash ks hV (fun q hq => ?_) ?_
      · rcases mem_putK hq with rfl | hq
        · show crashN _ g ≤ (g.data.take (crashN _ g)).length
          rw [List.length_take]; unfold crashN; omega
        · exact hs q hq
      · rw [List.map_set]
        have : (oneOf (crashF (keepAt ks i) g)).name = n := (getK_mem hg).2
        rw [this, List.drop_set, if_pos (by omega)]
        exact e'
end Go.Abs.TC
namespace Go.Abs.TC
open Go Go.Abs Go.Proofs

/-! ### put -/
noncomputable def w_law04_model_put (p : Pt) (i : Int) (f : law04_one) (σ : Heap) : Option (Unit × Heap) :=
  mdRel 49 [.ptr p, .int .i64 i, t_law04_one.av f] tVoid.av p (fun m => if 0 ≤ i ∧ i ≤ m.l.length ∧ m.l.length < 100000 then some ((), fun m' => m' = { m with sl := m'.sl, l := m.l.take i.toNat ++ f :: m.l.drop i.toNat }) else none) σ
theorem ok_law04_model_put : Ok_law04_model_put w_law04_model_put := fun _ _ _ _ _ _ h => mdRel_ok h
theorem append_keep {α : Type} {E : El α} {s : Sl} {σ σ' : Heap} {xs : List α} {z bytes k : Nat} {vs : List AVal} {q : Option Nat × Nat × Nat} (h : s.Own E σ xs) (ha : σ.append s.b s.o s.n z bytes vs k = some (q, σ')) : Keep σ σ' := by
  unfold Heap.append at ha
  split at ha
  · injection ha with ha
    injection ha with _ ha
    subst ha
    exact ⟨Nat.le_refl _, fun _ _ => .inl rfl⟩
  split at ha
  · cases h with
    | nil hb ho hn hx =>
      rw [hb] at ha
      injection ha with ha
      injection ha with _ ha
      subst ha
      exact ⟨by simp, fun b hb => .inl (List.getElem?_append_left hb)⟩
    | row b hb ho hn hr =>
      rw [hb] at ha
      simp only [hr] at ha
      split at ha
      · injection ha with ha
        injection ha with _ ha
        subst ha
        have hl := (List.getElem?_eq_some_iff.1 hr).1
        refine ⟨by simp, fun c hc => ?_⟩
        rw [List.getElem?_append_left (by simp; exact hc)]
        by_cases e : c = b
        · subst e
          exact .inr ⟨by simp [hl], _, hr⟩
        · exact .inl (List.getElem?_set_ne (Ne.symm e))
      · cases ha
  · cases ha
theorem w_law04_model_put_ex {σ : Heap} {m : MD} (h : Md σ .rw m) {i : Nat} (hi : i ≤ m.l.length) (hl : m.l.length < 100000) (f : law04_one) :
    ∃ σ' m', w_law04_model_put (some (m.p, 0)) (i : Int) f σ = some ((), σ') ∧ Md σ' .rw m' ∧ MFr σ m σ' m' ∧ m' = { m with sl := m'.sl, l := m.l.take i ++ f :: m.l.drop i } := by
  refine mdRel_ex (op := fun m => if 0 ≤ (i : Int) ∧ (i : Int) ≤ m.l.length ∧ m.l.length < 100000 then some ((), fun m' => m' = { m with sl := m'.sl, l := m.l.take (i : Int).toNat ++ f :: m.l.drop (i : Int).toNat }) else none) (r := ((), fun m' => m' = { m with sl := m'.sl, l := m.l.take i ++ f :: m.l.drop i })) h (by rw [if_pos (by omega)]; rfl) ?_
  have hs := h.sz
  have hI := h.is (mo := .rw) rdw
  have hI' := h.frz.is (mo := .ro) rdo
  obtain ⟨c0, _⟩ := h.cells rdw
  have hr := law04_model_put_eq (R := AVal × Heap) 0 (some (m.p, 0)) (i : Int) f σ fun v σ => some (v, σ)
  have r1 := hI'.readn (m := i) (by omega)
  have hz : eOne.z = 3 := rfl
  rw [hz] at r1
  have htl : (m.l.take i).length = i := by rw [List.length_take]; omega
  obtain ⟨q, σ1, a1, a2, a3, a4⟩ := append_first (E := eOne) σ (m.l.take i) (bytes := 40) (by rw [htl]; omega) (by rw [htl]; omega)
  rw [htl, hz] at a1
  rw [Option.bind_some] at hr
  dsimp only at hr
  rw [c0, Option.bind_some] at hr
  dsimp only at hr
  rw [h.n, dec0, decide_eq_true (show (i : Int) ≤ (m.l.length : Int) by omega), Bool.true_and, cond_true, show ((i : Nat) : Int).toNat = i from rfl, r1, Option.bind_some, a1, Option.bind_some] at hr
  dsimp only at hr
  rw [Heap.back_frz] at hr
  generalize σ.back σ1 = σ2 at a2 a3 hr
  obtain ⟨u, σ3, g1, g2, g3, g4⟩ := append_own (ys := [f]) a2 (bytes := 40) (vs := [.str f.name, .str f.data, .int .i64 f.sure]) (k := 1) (by simp [El.all]; rfl) rfl (by rw [htl]; simp; omega) (by rw [htl]; simp; omega)
  have gk := append_keep a2 g1
  rw [hz] at g1
  dsimp only at g1
  rw [g1, Option.bind_some] at hr
  dsimp only at hr
  rw [show keep? σ2 σ3 = some () by unfold keep?; rw [if_pos gk], Option.bind_some, Option.bind_some] at hr
  dsimp only at hr
  have l1 := a3.length_le
  have l2 := g3.len
  have hat : ∀ b, b < σ.length → σ3[b]? = σ[b]? := fun b hb => (g3.at_ b (by omega) (fun e => by have := a4 b e; omega)).trans (get_pre a3 hb)
  have h3 : Md σ3 .rw m := h.same fun b hb => hat b (h.foot_lt hb)
  obtain ⟨d0, _⟩ := h3.cells rdw
  rw [d0, Option.bind_some] at hr
  dsimp only at hr
  have r2 := ((h3.is (mo := .rw) rdw).drop (k := i) (by omega)).read
  rw [hz] at r2
  dsimp only at r2
  rw [h.n] at r2 hr
  rw [decide_eq_true (show (i : Int) ≤ (m.l.length : Int) by omega), decide_eq_true (show (m.l.length : Int) ≤ (m.l.length : Int) by omega), show (true && true && true) = true from rfl, cond_true, r2, Option.bind_some] at hr
  have htl' : (m.l.take i ++ [f]).length = i + 1 := by rw [List.length_append, htl]; rfl
  obtain ⟨v, σ4, b1, b2, b3, b4⟩ := append_own (ys := m.l.drop i) g2 (bytes := 40) (vs := eOne.all (m.l.drop i)) (k := m.l.length - i) rfl (by rw [List.length_drop]) (by rw [htl', List.length_drop]; omega) (by rw [htl', List.length_drop]; omega)
  rw [hz] at b1
  dsimp only at b1
  rw [b1, Option.bind_some, Option.bind_some] at hr
  dsimp only at hr
  have l3 := b3.len
  rw [List.append_assoc, List.singleton_append] at b2
  have u4 : ∀ c, u.1 = some c → σ.length ≤ c := fun c hc => by
    rcases g4 c hc with h | h
    · exact a4 c h
    · omega
  obtain ⟨σ5, e1, e2, e3⟩ := h.setList (σ' := σ4) (fun b hb => (b3.at_ b (by omega) (fun e => by have := u4 b e; omega)).trans (hat b hb)) (by omega) b2
    (fun c hc => by
      rcases b4 c hc with h | h
      · exact u4 c h
      · omega)
    (by rw [List.length_append, List.length_cons, List.length_take, List.length_drop]; omega)
  dsimp only at e1
  rw [e1, Option.bind_some] at hr
  exact ⟨σ5, _, call_ok ok known0_ok hr, e2, e3, rfl⟩

/-! ### Stores in place -/
theorem Md.setAt {σ : Heap} {m : MD} (h : Md σ .rw m) {i : Nat} {o y : law04_one} (hi : m.l[i]? = some o) {b : Nat} (hb : m.sl.b = some b) (a c : List AVal) (w v : AVal) (hx : eOne.en o = a ++ [w] ++ c) (hy : eOne.en y = a ++ [v] ++ c) {j : Nat} (hj : a.length = j) :
    ∃ σ', σ.store b (m.sl.o + i * 3 + j) [v] = some σ' ∧ Md σ' .rw { m with l := m.l.set i y } ∧ MFr σ m σ' { m with l := m.l.set i y } := by
  have hil := (List.getElem?_eq_some_iff.1 hi).1
  have hz : eOne.z = 3 := rfl
  have hlen : (eOne.en o).length = 3 := eOne.len o
  have hj3 : j < 3 := by rw [hx] at hlen; simp at hlen; omega
  have e := El.all_set eOne m.l hi y a [w] c hx (vs := [v]) rfl hy hj
  have hmul : (i + 1) * 3 ≤ m.l.length * 3 := Nat.mul_le_mul_right _ hil
  obtain ⟨σ', s1, s2, s3, s4⟩ := store_own (E := eOne) h.own hb (o := i * 3 + j) (vs := [v]) e (by rw [List.length_set]) (by rw [hz]; simp; omega)
  have hbp : b ≠ m.p := by
    rcases h.at_ with ⟨h1, _⟩ | ⟨b', h1, h2, _⟩
    · rw [h1] at hb; cases hb
    · rw [h1] at hb; injection hb with hb; subst hb; exact h2
  refine ⟨σ', by rw [h.o, Nat.zero_add]; exact s1, ⟨by rw [s4 _ (Ne.symm hbp)]; exact h.hd, h.o, by rw [List.length_set]; exact h.n, .inr ⟨b, hb, hbp, ?_⟩, by rw [List.length_set]; exact h.sz⟩, ⟨by omega, fun b' _ hn => s4 b' (fun e => hn (by simp [MD.foot, hb, e])), fun b' hb' => .inl hb', rfl⟩⟩
  cases s2 with
  | nil hb' _ _ _ => rw [hb] at hb'; cases hb'
  | row b' hb' _ _ hr =>
    rw [hb] at hb'
    injection hb' with hb'
    subst hb'
    exact hr
theorem Md.setData {σ : Heap} {m : MD} (h : Md σ .rw m) {i : Nat} {o : law04_one} (hi : m.l[i]? = some o) {b : Nat} (hb : m.sl.b = some b) (d : ByteArray) :
    ∃ σ', σ.store b (m.sl.o + i * 3 + 1) [.str d] = some σ' ∧ Md σ' .rw { m with l := m.l.set i { o with data := d } } ∧ MFr σ m σ' { m with l := m.l.set i { o with data := d } } :=
  h.setAt hi hb [.str o.name] [.int .i64 o.sure] (.str o.data) (.str d) rfl rfl rfl
theorem Md.setSure {σ : Heap} {m : MD} (h : Md σ .rw m) {i : Nat} {o : law04_one} (hi : m.l[i]? = some o) {b : Nat} (hb : m.sl.b = some b) (n : Int) :
    ∃ σ', σ.store b (m.sl.o + i * 3 + 2) [.int .i64 n] = some σ' ∧ Md σ' .rw { m with l := m.l.set i { o with sure := n } } ∧ MFr σ m σ' { m with l := m.l.set i { o with sure := n } } :=
  h.setAt hi hb [.str o.name, .str o.data] [] (.int .i64 o.sure) (.int .i64 n) rfl rfl rfl
end Go.Abs.TC
namespace Go.Abs.TC
open Go Go.Abs Go.Proofs

theorem is_mfr {α : Type} {E : El α} {s : Sl} {σ σ' : Heap} {m m' : MD} {xs : List α} (h : s.Is E σ xs) (k : MFr σ m σ' m') (hout : ∀ c, s.b = some c → c ∉ m.foot) : s.Is E σ' xs ∧ ∀ c, s.b = some c → c ∉ m'.foot :=
  ⟨h.of_row fun c cs hc hrow => by rw [row?_congr (k.at_ c (row?_lt hrow) (hout c hc))]; exact hrow, fun c hc hm => by
    rcases k.foot c hm with h1 | h1
    · exact hout c hc h1
    · have := h.lt hc; omega⟩
/-- What a model's list holds is small. -/
def Small (l : List law04_one) : Prop := ∀ o ∈ l, 0 ≤ o.sure ∧ o.sure ≤ o.data.size ∧ o.data.size ≤ 1000000
theorem Small.set {l : List law04_one} (h : Small l) {i : Nat} {y : law04_one} (hy : 0 ≤ y.sure ∧ y.sure ≤ y.data.size ∧ y.data.size ≤ 1000000) : Small (l.set i y) := fun o ho => by
  rcases List.mem_or_eq_of_mem_set ho with h1 | rfl
  · exact h o h1
  · exact hy
theorem crashO_small {more : Nat} {o : law04_one} (h : 0 ≤ o.sure ∧ o.sure ≤ o.data.size ∧ o.data.size ≤ 1000000) : 0 ≤ (crashO more o).sure ∧ (crashO more o).sure ≤ (crashO more o).data.size ∧ (crashO more o).data.size ≤ 1000000 := by
  unfold crashO
  simp only [ByteArray.size_extract]
  omega
theorem set_set {α : Type} (l : List α) (i : Nat) (x y : α) : (l.set i x).set i y = l.set i y := List.set_set ..
theorem crash_put {L fu : Nat} {keep : Sl} {σ : Heap} {m : MD} (h : Md σ .rw m) {i : Nat} {o : law04_one} (hi : m.l[i]? = some o) {n : Nat} (hn : n ≤ o.data.size) {sl : Option Nat × Nat × Nat} :
    ∃ σ', Md σ' .rw { m with l := m.l.set i ⟨o.name, o.data.extract 0 n, (n : Int)⟩ } ∧ MFr σ m σ' { m with l := m.l.set i ⟨o.name, o.data.extract 0 n, (n : Int)⟩ } ∧
      (((some (m.p, 0) : Pt).bind fun q15 =>
          (slice? (Heap.cell? σ q15.1 q15.2) 3).bind fun x16 =>
          (some (m.p, 0) : Pt).bind fun q17 =>
          (slice? (Heap.cell? σ q17.1 q17.2) 3).bind fun x18 =>
          bif ((decide (0 ≤ (n : Int))) && (decide ((n : Int) ≤ (o.data.size : Int)))) then (
            bif ((decide (0 ≤ (i : Int))) && (decide ((i : Int) < (x16.2.2 : Int)))) then (
              (x16.1).bind fun b19 =>
              (Heap.store σ b19 ((x16.2.1 + (i : Int).toNat * 3) + 1) [.str (o.data.extract 0 (n : Int).toNat)]).bind fun σ20 =>
              bif ((decide (0 ≤ (i : Int))) && (decide ((i : Int) < (x18.2.2 : Int)))) then (
                (x18.1).bind fun b21 =>
                (Heap.store σ20 b21 ((x18.2.1 + (i : Int).toNat * 3) + 2) [.int .i64 (n : Int)]).bind fun σ22 =>
                law04_model_crash_L1 (R := AVal × Heap) L fu (some (m.p, 0)) keep sl (IntKind.i64.wrap ((i : Int) + 1)) σ22 (fun v σ => some (v, σ)))
              else none)
            else none)
          else none) = law04_model_crash_L1 (R := AVal × Heap) L fu (some (m.p, 0)) keep sl (IntKind.i64.wrap ((i : Int) + 1)) σ' (fun v σ => some (v, σ))) := by
  have hil := (List.getElem?_eq_some_iff.1 hi).1
  obtain ⟨c0, _⟩ := h.cells rdw
  obtain ⟨b, b1, _⟩ := one_cells (h.is (mo := .rw) rdw) hi
  obtain ⟨σ1, s1, s2, s3⟩ := h.setData hi b1 (o.data.extract 0 n)
  have hi1 : (m.l.set i { o with data := o.data.extract 0 n })[i]? = some { o with data := o.data.extract 0 n } := by rw [List.getElem?_set_self hil]
  obtain ⟨σ2, t1, t2, t3⟩ := s2.setSure hi1 b1 (n : Int)
  dsimp only at t1 t2 t3
  rw [List.set_set] at t2 t3
  refine ⟨σ2, t2, s3.trans t3, ?_⟩
  rw [Option.bind_some]
  dsimp only
  rw [c0, Option.bind_some, Option.bind_some]
  dsimp only
  rw [c0, Option.bind_some]
  dsimp only
  rw [h.n, dec0, decide_eq_true (show (n : Int) ≤ (o.data.size : Int) by omega), Bool.true_and, cond_true, dec0, lt_true hil, Bool.true_and, cond_true, b1, Option.bind_some, show ((i : Nat) : Int).toNat = i from rfl, show ((n : Nat) : Int).toNat = n from rfl, s1, Option.bind_some, cond_true, Option.bind_some, t1, Option.bind_some]
theorem crash_inner {L fu : Nat} {keep : Sl} {ks : List Int} {σ : Heap} {m : MD} (h : Md σ .rw m) (hK : keep.Is eI64 σ ks) {i : Nat} {o : law04_one} (hi : m.l[i]? = some o) (ho : 0 ≤ o.sure ∧ o.sure ≤ o.data.size ∧ o.data.size ≤ 1000000) {sl : Option Nat × Nat × Nat} {Q : Option (AVal × Heap) → Prop}
    (hQ : ∀ σ', Md σ' .rw { m with l := m.l.set i (crashO (keepAt ks i) o) } → MFr σ m σ' { m with l := m.l.set i (crashO (keepAt ks i) o) } → Q (law04_model_crash_L1 (R := AVal × Heap) L fu (some (m.p, 0)) keep sl (IntKind.i64.wrap ((i : Int) + 1)) σ' (fun v σ => some (v, σ)))) :
    ∀ (t f k : Nat), min (o.sure.toNat + keepAt ks i) o.data.size = o.sure.toNat + k + t → t < f →
      Q (law04_model_crash_L5 (R := AVal × Heap) L fu f (some (m.p, 0)) keep (i : Int) (o.sure + k) (k : Int) sl o.name o.data o.sure σ (fun v σ => some (v, σ)))
  | t, 0, k, _, h => by omega
  | t, f + 1, k, hk, hf => by
    have hsn : o.sure = (o.sure.toNat : Int) := by omega
    have hn : o.sure + (k : Int) = ((o.sure.toNat + k : Nat) : Int) := by omega
    have hle : o.sure.toNat + k ≤ o.data.size := by omega
    obtain ⟨σ1, a1, a2, a3⟩ := crash_put (L := L) (fu := fu) (keep := keep) (sl := sl) h hi (n := o.sure.toNat + k) hle
    have hfin : t = 0 → Q (law04_model_crash_L1 (R := AVal × Heap) L fu (some (m.p, 0)) keep sl (IntKind.i64.wrap ((i : Int) + 1)) σ1 (fun v σ => some (v, σ))) := fun h0 => by
      have e : (⟨o.name, o.data.extract 0 (o.sure.toNat + k), ((o.sure.toNat + k : Nat) : Int)⟩ : law04_one) = crashO (keepAt ks i) o := by unfold crashO; rw [hk, h0, Nat.add_zero]
      rw [e] at a1 a2
      exact hQ σ1 a1 a2
    rw [hn, law04_model_crash_L5_eq, hK.n]
    by_cases hik : i < ks.length
    · obtain ⟨b4, k1, k2⟩ := i64_cell hK (List.getElem?_eq_getElem hik)
      have hka := keepAt_lt (List.getElem?_eq_getElem hik)
      rw [lt_true hik, cond_true, dec0, Bool.and_true, cond_true, k1, Option.bind_some, show ((i : Nat) : Int).toNat = i from rfl, k2, show int? (some (AVal.int .i64 ks[i])) .i64 = some ks[i] from rfl, Option.bind_some]
      by_cases hlt : (k : Int) < ks[i]
      · rw [decide_eq_true hlt, cond_true]
        have hka' : (k : Int) < (keepAt ks i : Int) := by rw [← hka]; split <;> omega
        by_cases hsz : o.sure.toNat + k < o.data.size
        · rw [decide_eq_true (show ((o.sure.toNat + k : Nat) : Int) < (o.data.size : Int) by omega), cond_true, wrap_i64_succ _ (by omega), wrap_i64_succ k (by omega)]
          have := crash_inner (L := L) (fu := fu) h hK hi ho (sl := sl) hQ (t - 1) f (k + 1) (by omega) (by omega)
          rw [show o.sure + ((k + 1 : Nat) : Int) = ((o.sure.toNat + k + 1 : Nat) : Int) by omega] at this
          exact this
        · rw [decide_eq_false (show ¬ ((o.sure.toNat + k : Nat) : Int) < (o.data.size : Int) by omega), cond_false]
          have a3' := a3
          rw [dec0] at a3'
          rw [dec0] 
          refine a3'.symm ▸ hfin (by omega)
      · rw [decide_eq_false hlt, cond_false]
        have hka' : (keepAt ks i : Int) ≤ (k : Int) := by rw [← hka]; split <;> omega
        exact a3.symm ▸ hfin (by omega)
    · rw [lt_false hik, cond_false]
      have hk0 := keepAt_ge hik
      exact a3.symm ▸ hfin (by omega)
theorem crashL_len (ks : List Int) : ∀ (k i : Nat) (l : List law04_one), (crashL ks k i l).length = l.length
  | 0, _, _ => rfl
  | k + 1, i, l => by
    rw [crashL, crashL_len ks k]
    split
    · rw [List.length_set]
    · rfl
theorem model_crash_loop {L : Nat} {keep : Sl} {ks : List Int} (hL : 1000000 < L) :
    ∀ (k i f : Nat) (σ : Heap) (m : MD), i + k = m.l.length → k < f → Md σ .rw m → Small m.l → keep.Is eI64 σ ks → (∀ c, keep.b = some c → c ∉ m.foot) →
      ∃ σ', law04_model_crash_L1 (R := AVal × Heap) L f (some (m.p, 0)) keep (m.sl.b, m.sl.o, m.sl.n) (i : Int) σ (fun v σ => some (v, σ)) = some (.tuple [], σ') ∧
        Md σ' .rw { m with l := crashL ks k i m.l, left := -1, down := false } ∧ MFr σ m σ' { m with l := crashL ks k i m.l, left := -1, down := false }
  | k, i, 0, σ, m, _, h, _, _, _, _ => by omega
  | 0, i, f + 1, σ, m, hi, _, h, hs, hK, hKo => by
    rw [law04_model_crash_L1_eq]
    dsimp only
    rw [h.n, lt_false (by omega), cond_false, Option.bind_some]
    dsimp only
    have e1 := md_store h 2 (.int .i64 (-1)) (by decide)
    obtain ⟨g1, g2⟩ := h.setHead m.quota (-1) m.down
    have hh1 : m.head.set 2 (.int .i64 (-1)) = MD.head { m with quota := m.quota, left := -1, down := m.down } := rfl
    rw [hh1] at e1
    have e2 := md_store g1 3 (.bool false) (by decide)
    obtain ⟨g3, g4⟩ := g1.setHead m.quota (-1) false
    dsimp only at e2 g3 g4
    have hh2 : (MD.head { m with quota := m.quota, left := -1, down := m.down }).set 3 (.bool false) = MD.head { m with quota := m.quota, left := -1, down := false } := rfl
    rw [hh2] at e2
    rw [Nat.zero_add, e1, Option.bind_some, Option.bind_some]
    dsimp only
    rw [Nat.zero_add, e2, Option.bind_some]
    exact ⟨_, rfl, g3, g2.trans g4⟩
  | k + 1, i, f + 1, σ, m, hi, hf, h, hs, hK, hKo => by
    have hil : i < m.l.length := by omega
    have hsz := h.sz
    have hgi := List.getElem?_eq_getElem hil
    generalize m.l[i] = o at hgi
    have ho := hs o (List.mem_of_getElem? hgi)
    obtain ⟨b, b1, b2, b3, b4⟩ := one_cells (h.is (mo := .rw) rdw) hgi
    have hcl : crashL ks (k + 1) i m.l = crashL ks k (i + 1) (m.l.set i (crashO (keepAt ks i) o)) := by rw [crashL, hgi]
    have main := crash_inner (L := L) (fu := f) (keep := keep) (sl := (m.sl.b, m.sl.o, m.sl.n)) h hK hgi ho
      (Q := fun r => ∃ σ', r = some (.tuple [], σ') ∧ Md σ' .rw { m with l := crashL ks (k + 1) i m.l, left := -1, down := false } ∧ MFr σ m σ' { m with l := crashL ks (k + 1) i m.l, left := -1, down := false })
      (fun σ1 a1 a2 => by
        obtain ⟨j1, j2⟩ := is_mfr hK a2 hKo
        obtain ⟨σ', r1, r2, r3⟩ := model_crash_loop hL k (i + 1) f σ1 { m with l := m.l.set i (crashO (keepAt ks i) o) } (by simp only [List.length_set]; omega) (by omega) a1 (hs.set (crashO_small ho)) j1 j2
        dsimp only at r1 r2 r3
        rw [wrap_i64_succ i (by omega), hcl]
        exact ⟨σ', r1, r2, a2.trans r3⟩)
      (min (o.sure.toNat + keepAt ks i) o.data.size - o.sure.toNat) L 0 (by omega) (by omega)
    rw [law04_model_crash_L1_eq]
    dsimp only
    rw [h.n, lt_true hil, cond_true, dec0, Bool.and_true, cond_true, b1, Option.bind_some, show ((i : Nat) : Int).toNat = i from rfl, b2, Option.bind_some, b3, Option.bind_some, b4, Option.bind_some]
    rw [b1, h.n, show o.sure + ((0 : Nat) : Int) = o.sure by omega] at main
    exact main
noncomputable def w_law04_model_crash (p : Pt) (keep : Sl) (σ : Heap) : Option (Unit × Heap) :=
  mdRel 45 [.ptr p, .slice keep.b keep.o keep.n 1] tVoid.av p (fun m => (readI σ keep).map fun ks => ((), fun m' => m' = { m with l := crashL ks m.l.length 0 m.l, left := -1, down := false })) σ
theorem ok_law04_model_crash : Ok_law04_model_crash w_law04_model_crash := fun _ _ _ _ _ h => mdRel_ok h
theorem w_law04_model_crash_ex {σ : Heap} {m : MD} (h : Md σ .rw m) (hs : Small m.l) {keep : Sl} {ks : List Int} (hK : keep.Is eI64 σ ks) (hKo : ∀ c, keep.b = some c → c ∉ m.foot) :
    ∃ σ' m', w_law04_model_crash (some (m.p, 0)) keep σ = some ((), σ') ∧ Md σ' .rw m' ∧ MFr σ m σ' m' ∧ m' = { m with l := crashL ks m.l.length 0 m.l, left := -1, down := false } := by
  refine mdRel_ex (op := fun m => (readI σ keep).map fun ks => ((), fun m' => m' = { m with l := crashL ks m.l.length 0 m.l, left := -1, down := false })) (r := ((), fun m' => m' = { m with l := crashL ks m.l.length 0 m.l, left := -1, down := false })) h (by simp only [readI_eq hK, Option.map_some]) ?_
  obtain ⟨c0, _⟩ := h.cells rdw
  have hsz := h.sz
  obtain ⟨σ', r1, r2, r3⟩ := model_crash_loop (L := 1000001) (keep := keep) (by decide) m.l.length 0 1000001 σ m (by omega) (by omega) h hs hK hKo
  have hr := law04_model_crash_eq (R := AVal × Heap) 1000001 (some (m.p, 0)) keep σ fun v σ => some (v, σ)
  rw [Option.bind_some] at hr
  dsimp only at hr
  rw [c0, Option.bind_some] at hr
  exact ⟨σ', _, call_ok ok known0_ok (hr.trans r1), r2, r3, rfl⟩
end Go.Abs.TC
namespace Go.Abs.TC
open Go Go.Abs Go.Proofs

def PMx : Type := List law04_one × Int × Bool
def oneAt (l : List law04_one) (i : Nat) : law04_one := l.getD i ⟨⟨#[]⟩, ⟨#[]⟩, 0⟩
def cutI (n : Int) (s : Nat) : Nat := min n.toNat s
def putL (l : List law04_one) (i : Nat) (o : law04_one) : List law04_one := l.take i ++ o :: l.drop i
def editM (l : List law04_one) (k : Int) (i : Nat) (th : Bool) (p : PCall) : List law04_one :=
  if k = 2 then l.set i { oneAt l i with sure := ((oneAt l i).data.size : Int) } else
  if k = 3 then
    (if thereN (l.eraseIdx i) p.To then putL ((l.eraseIdx i).eraseIdx (posN (l.eraseIdx i) p.To)) (posN (l.eraseIdx i) p.To) ⟨p.To, (oneAt l i).data, (oneAt l i).sure⟩ else putL (l.eraseIdx i) (posN (l.eraseIdx i) p.To) ⟨p.To, (oneAt l i).data, (oneAt l i).sure⟩) else
  if k = 4 then l.eraseIdx i else
  if k = 5 then l.set i ⟨(oneAt l i).name, (oneAt l i).data.extract 0 (cutI p.N (oneAt l i).data.size), min (cutI p.N (oneAt l i).data.size : Int) (oneAt l i).sure⟩ else
  if th then l.set i { oneAt l i with data := (oneAt l i).data ++ ⟨p.Data.toArray⟩ } else putL l i ⟨p.Name, (⟨#[]⟩ : ByteArray) ++ ⟨p.Data.toArray⟩, 0⟩
def doM (m : MD) (p : PCall) : Int × (List law04_one × Int × Bool) :=
  if kindI p.Kind = 6 then (0, m.l, (if (-1) > p.N then (-1) else p.N), m.down) else
  if kindI p.Kind = 7 then (0, crashL (keepsV p.N p.Data) m.l.length 0 m.l, -1, false) else
  if wrongV m (kindI p.Kind) p.Name p.To p.Data.length (thereN m.l p.Name) ≠ 0 then (wrongV m (kindI p.Kind) p.Name p.To p.Data.length (thereN m.l p.Name), m.l, m.left, m.down) else
  if m.left = 0 then (8, m.l, m.left, true) else
  (0, editM m.l (kindI p.Kind) (posN m.l p.Name) (thereN m.l p.Name) p, (if m.left > 0 then m.left - 1 else m.left), m.down)
theorem oneAt_eq {l : List law04_one} {i : Nat} {o : law04_one} (h : l[i]? = some o) : oneAt l i = o := by
  unfold oneAt
  rw [List.getD_eq_getElem?_getD, h, Option.getD_some]
theorem there_at {l : List law04_one} {n : ByteArray} (h : thereN l n = true) : ∃ o, l[posN l n]? = some o := by
  unfold thereN at h
  cases ho : l[posN l n]? with
  | none => rw [ho] at h; cases h
  | some o => exact ⟨o, rfl⟩
noncomputable def c_law04_model_do : C_law04_model_do := { law04_Call_kind := w_law04_Call_kind, law04_Call_keeps := w_law04_Call_keeps, law04_model_crash := w_law04_model_crash, law04_model_at := w_law04_model_at, law04_model_wrong := w_law04_model_wrong, law04_model_drop := w_law04_model_drop, law04_model_put := w_law04_model_put }
section
variable {σ : Heap} {m : MD} {i : Nat} {o : law04_one}
/-- What an edit leaves. -/
def Left (σ : Heap) (m : MD) (l : List law04_one) (B : Option (AVal × Heap)) : Prop := ∃ σ' m', B = some (.int .i64 0, σ') ∧ Md σ' .rw m' ∧ MFr σ m σ' m' ∧ m' = { m with sl := m'.sl, l := l }
theorem edit2 (h : Md σ .rw m) (hi : m.l[i]? = some o) : Left σ m (m.l.set i { o with sure := (o.data.size : Int) })
    ((some (m.p, 0) : Pt).bind fun q20 =>
        (slice? (Heap.cell? σ q20.1 q20.2) 3).bind fun x21 =>
        (some (m.p, 0) : Pt).bind fun q22 =>
        (slice? (Heap.cell? σ q22.1 q22.2) 3).bind fun x23 =>
        bif ((decide (0 ≤ (i : Int))) && (decide ((i : Int) < (x23.2.2 : Int)))) then (
          (x23.1).bind fun b24 =>
          (str? (Heap.cell? σ b24 ((x23.2.1 + (i : Int).toNat * 3) + 1))).bind fun x25 =>
          bif ((decide (0 ≤ (i : Int))) && (decide ((i : Int) < (x21.2.2 : Int)))) then (
            (x21.1).bind fun b26 =>
            (Heap.store σ b26 ((x21.2.1 + (i : Int).toNat * 3) + 2) [.int .i64 (x25.size : Int)]).bind fun σ27 =>
            some (.int .i64 0, σ27))
          else none)
        else none) := by
  have hil := (List.getElem?_eq_some_iff.1 hi).1
  obtain ⟨c0, _⟩ := h.cells rdw
  obtain ⟨b, b1, b2, b3, b4⟩ := one_cells (h.is (mo := .rw) rdw) hi
  obtain ⟨σ1, s1, s2, s3⟩ := h.setSure hi b1 (o.data.size : Int)
  refine ⟨σ1, _, ?_, s2, s3, rfl⟩
  rw [Option.bind_some]
  dsimp only
  rw [c0, Option.bind_some, Option.bind_some]
  dsimp only
  rw [c0, Option.bind_some]
  dsimp only
  rw [h.n, dec0, lt_true hil, Bool.true_and, cond_true, b1, Option.bind_some, show ((i : Nat) : Int).toNat = i from rfl, b3, Option.bind_some, cond_true, Option.bind_some, s1, Option.bind_some]
theorem edit5 (h : Md σ .rw m) (hi : m.l[i]? = some o) (N : Int) : Left σ m (m.l.set i ⟨o.name, o.data.extract 0 (cutI N o.data.size), min (cutI N o.data.size : Int) o.sure⟩)
    ((some (m.p, 0) : Pt).bind fun q40 =>
        (slice? (Heap.cell? σ q40.1 q40.2) 3).bind fun x41 =>
        bif ((decide (0 ≤ (i : Int))) && (decide ((i : Int) < (x41.2.2 : Int)))) then (
          (x41.1).bind fun b42 =>
          (str? (Heap.cell? σ b42 ((x41.2.1 + (i : Int).toNat * 3) + 1))).bind fun x43 =>
          (some (m.p, 0) : Pt).bind fun q44 =>
          (slice? (Heap.cell? σ q44.1 q44.2) 3).bind fun x45 =>
          (some (m.p, 0) : Pt).bind fun q46 =>
          (slice? (Heap.cell? σ q46.1 q46.2) 3).bind fun x47 =>
          (some (m.p, 0) : Pt).bind fun q48 =>
          (slice? (Heap.cell? σ q48.1 q48.2) 3).bind fun x49 =>
          bif ((decide (0 ≤ (i : Int))) && (decide ((i : Int) < (x49.2.2 : Int)))) then (
            (x49.1).bind fun b50 =>
            (str? (Heap.cell? σ b50 ((x49.2.1 + (i : Int).toNat * 3) + 1))).bind fun x51 =>
            bif ((decide (0 ≤ (if (x43.size : Int) < (if 0 > N then 0 else N) then (x43.size : Int) else (if 0 > N then 0 else N)))) && (decide ((if (x43.size : Int) < (if 0 > N then 0 else N) then (x43.size : Int) else (if 0 > N then 0 else N)) ≤ (x51.size : Int)))) then (
              (some (m.p, 0) : Pt).bind fun q52 =>
              (slice? (Heap.cell? σ q52.1 q52.2) 3).bind fun x53 =>
              bif ((decide (0 ≤ (i : Int))) && (decide ((i : Int) < (x53.2.2 : Int)))) then (
                (x53.1).bind fun b54 =>
                (int? (Heap.cell? σ b54 ((x53.2.1 + (i : Int).toNat * 3) + 2)) .i64).bind fun x55 =>
                bif ((decide (0 ≤ (i : Int))) && (decide ((i : Int) < (x45.2.2 : Int)))) then (
                  (x45.1).bind fun b56 =>
                  (Heap.store σ b56 ((x45.2.1 + (i : Int).toNat * 3) + 1) [.str (x51.extract 0 (if (x43.size : Int) < (if 0 > N then 0 else N) then (x43.size : Int) else (if 0 > N then 0 else N)).toNat)]).bind fun σ57 =>
                  bif ((decide (0 ≤ (i : Int))) && (decide ((i : Int) < (x47.2.2 : Int)))) then (
                    (x47.1).bind fun b58 =>
                    (Heap.store σ57 b58 ((x47.2.1 + (i : Int).toNat * 3) + 2) [.int .i64 (if (if (x43.size : Int) < (if 0 > N then 0 else N) then (x43.size : Int) else (if 0 > N then 0 else N)) < x55 then (if (x43.size : Int) < (if 0 > N then 0 else N) then (x43.size : Int) else (if 0 > N then 0 else N)) else x55)]).bind fun σ59 =>
                    some (.int .i64 0, σ59))
                  else none)
                else none)
              else none)
            else none)
          else none)
        else none) := by
  have hil := (List.getElem?_eq_some_iff.1 hi).1
  obtain ⟨c0, _⟩ := h.cells rdw
  obtain ⟨b, b1, b2, b3, b4⟩ := one_cells (h.is (mo := .rw) rdw) hi
  have hc : (if (o.data.size : Int) < (if 0 > N then 0 else N) then (o.data.size : Int) else (if 0 > N then 0 else N)) = (cutI N o.data.size : Int) := by
    unfold cutI
    split <;> split at * <;> omega
  have hcl : cutI N o.data.size ≤ o.data.size := by unfold cutI; omega
  have hmin : (if (cutI N o.data.size : Int) < o.sure then (cutI N o.data.size : Int) else o.sure) = min (cutI N o.data.size : Int) o.sure := by
    split <;> omega
  obtain ⟨σ1, s1, s2, s3⟩ := h.setData hi b1 (o.data.extract 0 (cutI N o.data.size))
  have hi1 : (m.l.set i { o with data := o.data.extract 0 (cutI N o.data.size) })[i]? = some { o with data := o.data.extract 0 (cutI N o.data.size) } := by rw [List.getElem?_set_self hil]
  obtain ⟨σ2, t1, t2, t3⟩ := s2.setSure hi1 b1 (min (cutI N o.data.size : Int) o.sure)
  dsimp only at t1 t2 t3
  rw [List.set_set] at t2 t3
  refine ⟨σ2, _, ?_, t2, s3.trans t3, rfl⟩
  have ri : decide ((i : Int) < (m.l.length : Int)) = true := lt_true hil
  have rt : ((i : Nat) : Int).toNat = i := rfl
  rw [Option.bind_some]
  dsimp only
  rw [c0, Option.bind_some]
  dsimp only
  rw [h.n, dec0, ri, Bool.true_and, cond_true, b1, Option.bind_some, rt, b3, Option.bind_some, Option.bind_some]
  dsimp only
  rw [c0, Option.bind_some, Option.bind_some]
  dsimp only
  rw [c0, Option.bind_some, Option.bind_some]
  dsimp only
  rw [c0, Option.bind_some]
  dsimp only
  rw [h.n, ri, Bool.true_and, cond_true, b1, Option.bind_some, b3, Option.bind_some, hc, dec0, decide_eq_true (show (cutI N o.data.size : Int) ≤ (o.data.size : Int) by omega), Bool.true_and, cond_true, Option.bind_some]
  dsimp only
  rw [c0, Option.bind_some]
  dsimp only
  rw [h.n, ri, Bool.true_and, cond_true, b1, Option.bind_some, b4, Option.bind_some, cond_true, Option.bind_some, show ((cutI N o.data.size : Nat) : Int).toNat = cutI N o.data.size from rfl, s1, Option.bind_some, cond_true, Option.bind_some, hmin, t1, Option.bind_some]
theorem edit4 (h : Md σ .rw m) (hi : i < m.l.length) : Left σ m (m.l.eraseIdx i) ((w_law04_model_drop (some (m.p, 0)) (i : Int) σ).bind fun q39 => some (.int .i64 0, q39.2)) := by
  obtain ⟨σ1, m1, r1, r2, r3, r4⟩ := w_law04_model_drop_ex h hi
  rw [r1, Option.bind_some]
  exact ⟨σ1, m1, rfl, r2, r3, r4⟩
theorem edit3 (h : Md σ .rw m) (hi : m.l[i]? = some o) (to : ByteArray) : Left σ m (if thereN (m.l.eraseIdx i) to then putL ((m.l.eraseIdx i).eraseIdx (posN (m.l.eraseIdx i) to)) (posN (m.l.eraseIdx i) to) ⟨to, o.data, o.sure⟩ else putL (m.l.eraseIdx i) (posN (m.l.eraseIdx i) to) ⟨to, o.data, o.sure⟩)
    ((some (m.p, 0) : Pt).bind fun q28 =>
        (slice? (Heap.cell? σ q28.1 q28.2) 3).bind fun x29 =>
        bif ((decide (0 ≤ (i : Int))) && (decide ((i : Int) < (x29.2.2 : Int)))) then (
          (x29.1).bind fun b30 =>
          (str? (Heap.cell? σ b30 (x29.2.1 + (i : Int).toNat * 3))).bind fun _ =>
          (str? (Heap.cell? σ b30 ((x29.2.1 + (i : Int).toNat * 3) + 1))).bind fun x32 =>
          (int? (Heap.cell? σ b30 ((x29.2.1 + (i : Int).toNat * 3) + 2)) .i64).bind fun x33 =>
          (w_law04_model_drop (some (m.p, 0)) (i : Int) σ).bind fun q34 =>
          (w_law04_model_at (some (m.p, 0)) to q34.2).bind fun q35 =>
          bif q35.1.2 then (
            (w_law04_model_drop (some (m.p, 0)) q35.1.1 q35.2).bind fun q36 =>
            (w_law04_model_put (some (m.p, 0)) q35.1.1 ⟨to, x32, x33⟩ q36.2).bind fun q37 =>
            some (.int .i64 0, q37.2))
          else
          (w_law04_model_put (some (m.p, 0)) q35.1.1 ⟨to, x32, x33⟩ q35.2).bind fun q38 =>
          some (.int .i64 0, q38.2))
        else none) := by
  have hil := (List.getElem?_eq_some_iff.1 hi).1
  have hsz := h.sz
  obtain ⟨c0, _⟩ := h.cells rdw
  obtain ⟨b, b1, b2, b3, b4⟩ := one_cells (h.is (mo := .rw) rdw) hi
  obtain ⟨σ1, m1, r1, r2, r3, r4⟩ := w_law04_model_drop_ex h hil
  have hp1 : m1.p = m.p := r3.p
  have hl1 : m1.l = m.l.eraseIdx i := by rw [r4]
  have hlen : m1.l.length + 1 = m.l.length := by rw [hl1, List.length_eraseIdx, if_pos hil]; omega
  have hat : w_law04_model_at (some (m1.p, 0)) to σ1 = some (((posN m1.l to : Int), thereN m1.l to), σ1) := mdRd_eq (mo := .rw) rdw r2
  rw [hp1] at hat
  have ri : decide ((i : Int) < (m.l.length : Int)) = true := lt_true hil
  rw [Option.bind_some]
  dsimp only
  rw [c0, Option.bind_some]
  dsimp only
  rw [h.n, dec0, ri, Bool.true_and, cond_true, b1, Option.bind_some, show ((i : Nat) : Int).toNat = i from rfl, b2, Option.bind_some, b3, Option.bind_some, b4, Option.bind_some, r1, Option.bind_some]
  dsimp only
  rw [hat, Option.bind_some]
  dsimp only
  rw [← hl1]
  cases ht : thereN m1.l to with
  | true =>
    obtain ⟨o', ho'⟩ := there_at ht
    have hjl := (List.getElem?_eq_some_iff.1 ho').1
    obtain ⟨σ2, m2, s1, s2, s3, s4⟩ := w_law04_model_drop_ex r2 hjl
    have hl2 : m2.l = m1.l.eraseIdx (posN m1.l to) := by rw [s4]
    have hlen2 : m2.l.length + 1 = m1.l.length := by rw [hl2, List.length_eraseIdx, if_pos hjl]; omega
    obtain ⟨σ3, m3, t1, t2, t3, t4⟩ := w_law04_model_put_ex s2 (i := posN m1.l to) (by omega) (by omega) ⟨to, o.data, o.sure⟩
    rw [hp1] at s1
    rw [s3.p, hp1] at t1
    rw [cond_true, s1, Option.bind_some]
    dsimp only
    rw [t1, Option.bind_some, if_pos rfl]
    refine ⟨σ3, m3, rfl, t2, (r3.trans s3).trans t3, ?_⟩
    rw [t4, s4, r4]
    rfl
  | false =>
    have hjl := posN_le m1.l to
    obtain ⟨σ3, m3, t1, t2, t3, t4⟩ := w_law04_model_put_ex r2 (i := posN m1.l to) hjl (by omega) ⟨to, o.data, o.sure⟩
    rw [hp1] at t1
    rw [cond_false, t1, Option.bind_some, if_neg (by simp)]
    refine ⟨σ3, m3, rfl, t2, r3.trans t3, ?_⟩
    rw [t4, r4]
    rfl
theorem edit1 (h : Md σ .rw m) (hi : m.l[i]? = some o) {data : Sl} {xs : List UInt8} (hX : data.Is eU8 σ xs) (hsz : o.data.size + xs.length ≤ 9000000) : Left σ m (m.l.set i { o with data := o.data ++ ⟨xs.toArray⟩ })
    ((some (m.p, 0) : Pt).bind fun q69 =>
      (slice? (Heap.cell? σ q69.1 q69.2) 3).bind fun x70 =>
      bif ((decide (0 ≤ (i : Int))) && (decide ((i : Int) < (x70.2.2 : Int)))) then (
        (x70.1).bind fun b71 =>
        (str? (Heap.cell? σ b71 ((x70.2.1 + (i : Int).toNat * 3) + 1))).bind fun x72 =>
        (Heap.read σ data.b data.o data.n 1).bind fun cs73 =>
        (bytesOf cs73).bind fun bs74 =>
        if x72.size + (⟨bs74.toArray⟩ : ByteArray).size ≤ 9223372036854775807 then (
          bif ((decide (0 ≤ (i : Int))) && (decide ((i : Int) < (x70.2.2 : Int)))) then (
            (x70.1).bind fun b75 =>
            (Heap.store σ b75 ((x70.2.1 + (i : Int).toNat * 3) + 1) [.str (x72 ++ (⟨bs74.toArray⟩ : ByteArray))]).bind fun σ76 =>
            some (.int .i64 0, σ76))
          else none)
        else (
          none))
      else none) := by
  have hil := (List.getElem?_eq_some_iff.1 hi).1
  obtain ⟨c0, _⟩ := h.cells rdw
  obtain ⟨b, b1, b2, b3, b4⟩ := one_cells (h.is (mo := .rw) rdw) hi
  obtain ⟨σ1, s1, s2, s3⟩ := h.setData hi b1 (o.data ++ ⟨xs.toArray⟩)
  refine ⟨σ1, _, ?_, s2, s3, rfl⟩
  have ri : decide ((i : Int) < (m.l.length : Int)) = true := lt_true hil
  have hr := hX.read
  have hz : eU8.z = 1 := rfl
  rw [hz] at hr
  have hsz2 : (⟨xs.toArray⟩ : ByteArray).size = xs.length := by simp [ByteArray.size]
  rw [Option.bind_some]
  dsimp only
  rw [c0, Option.bind_some]
  dsimp only
  rw [h.n, dec0, ri, Bool.true_and, cond_true, b1, Option.bind_some, show ((i : Nat) : Int).toNat = i from rfl, b3, Option.bind_some, hr, Option.bind_some, bytes_all, Option.bind_some, if_pos (by rw [hsz2]; omega), cond_true, Option.bind_some, s1, Option.bind_some]
theorem edit0 (h : Md σ .rw m) (hi : i ≤ m.l.length) (hl : m.l.length < 99999) (n : ByteArray) {data : Sl} {xs : List UInt8} (hX : data.Is eU8 σ xs) (hXo : ∀ c, data.b = some c → c ∉ m.foot) (hsz : xs.length ≤ 9000000) : Left σ m (putL m.l i ⟨n, (⟨#[]⟩ : ByteArray) ++ ⟨xs.toArray⟩, 0⟩)
    ((w_law04_model_put (some (m.p, 0)) (i : Int) ⟨n, (⟨#[]⟩ : ByteArray), 0⟩ σ).bind fun q60 =>
        (some (m.p, 0) : Pt).bind fun q61 =>
        (slice? (Heap.cell? q60.2 q61.1 q61.2) 3).bind fun x62 =>
        bif ((decide (0 ≤ (i : Int))) && (decide ((i : Int) < (x62.2.2 : Int)))) then (
          (x62.1).bind fun b63 =>
          (str? (Heap.cell? q60.2 b63 ((x62.2.1 + (i : Int).toNat * 3) + 1))).bind fun x64 =>
          (Heap.read q60.2 data.b data.o data.n 1).bind fun cs65 =>
          (bytesOf cs65).bind fun bs66 =>
          if x64.size + (⟨bs66.toArray⟩ : ByteArray).size ≤ 9223372036854775807 then (
            bif ((decide (0 ≤ (i : Int))) && (decide ((i : Int) < (x62.2.2 : Int)))) then (
              (x62.1).bind fun b67 =>
              (Heap.store q60.2 b67 ((x62.2.1 + (i : Int).toNat * 3) + 1) [.str (x64 ++ (⟨bs66.toArray⟩ : ByteArray))]).bind fun σ68 =>
              some (.int .i64 0, σ68))
            else none)
          else (
            none))
        else none) := by
  obtain ⟨σ1, m1, r1, r2, r3, r4⟩ := w_law04_model_put_ex h hi (by omega) ⟨n, ⟨#[]⟩, 0⟩
  have hl1 : m1.l = putL m.l i ⟨n, ⟨#[]⟩, 0⟩ := by rw [r4]; rfl
  have htl : (m.l.take i).length = i := by rw [List.length_take]; omega
  have hi1 : m1.l[i]? = some ⟨n, ⟨#[]⟩, 0⟩ := by
    rw [hl1, putL, List.getElem?_append_right (by omega), htl, Nat.sub_self]; rfl
  have hset : ∀ y, m1.l.set i y = putL m.l i y := fun y => by
    rw [hl1]
    unfold putL
    rw [List.set_append_right _ _ (by omega), htl, Nat.sub_self]
    rfl
  have e := edit1 (data := data) r2 hi1 (is_mfr hX r3 hXo).1 (by simp [ByteArray.size]; omega)
  obtain ⟨σ2, m2, s1, s2, s3, s4⟩ := e
  rw [r1, Option.bind_some]
  dsimp only
  rw [r3.p] at s1
  refine ⟨σ2, m2, s1, s2, r3.trans s3, ?_⟩
  rw [s4, r4, ← hset]
  rw [r4]
end
noncomputable def w_law04_model_do (p : Pt) (c : law04_Call) (σ : Heap) : Option (Int × Heap) :=
  mdRel 26 [.ptr p, t_law04_Call.av c] (tInt .i64).av p (fun m => (readC σ c).map fun p => ((doM m p).1, fun m' => m' = { m with sl := m'.sl, l := (doM m p).2.1, left := (doM m p).2.2.1, down := (doM m p).2.2.2 })) σ
theorem ok_law04_model_do : Ok_law04_model_do w_law04_model_do := fun _ _ _ _ _ h => mdRel_ok h
set_option maxHeartbeats 1000000 in
theorem w_law04_model_do_ex {σ : Heap} {m : MD} (h : Md σ .rw m) (hs : Small m.l) (hu : usedO m.l ≤ 900000) (hl : m.l.length ≤ 90000) (hleft : -1 ≤ m.left ∧ m.left ≤ 9223372036854775807) {c : law04_Call} {p : PCall} (hc : CallIs σ c p) :
    ∃ σ' m', w_law04_model_do (some (m.p, 0)) c σ = some ((doM m p).1, σ') ∧ Md σ' .rw m' ∧ MFr σ m σ' m' ∧ m' = { m with sl := m'.sl, l := (doM m p).2.1, left := (doM m p).2.2.1, down := (doM m p).2.2.2 } := by
  refine mdRel_ex (op := fun m => (readC σ c).map fun p => ((doM m p).1, fun m' => m' = { m with sl := m'.sl, l := (doM m p).2.1, left := (doM m p).2.2.1, down := (doM m p).2.2.2 })) (r := ((doM m p).1, fun m' => m' = { m with sl := m'.sl, l := (doM m p).2.1, left := (doM m p).2.2.1, down := (doM m p).2.2.2 })) h (by simp only [readC_eq hc, Option.map_some]) ?_
  have hlen := hc.len
  have hdata := hc.data
  have hro := hc.ro
  have hkeeps := w_law04_Call_keeps_eq hc
  have q1 := hc.kind
  have q2 := hc.n
  have q3 := hc.name
  have q4 := hc.to
  clear hc
  obtain ⟨ck, cn, cname, cto, cdata⟩ := c
  obtain ⟨pk, pn, pname, pto, pdata⟩ := p
  dsimp only at q1 q2 q3 q4 hlen hdata hro hkeeps
  subst q1; subst q2; subst q3; subst q4
  have p1 : c_law04_model_do.law04_Call_kind = w_law04_Call_kind := rfl
  have p2 : c_law04_model_do.law04_Call_keeps = w_law04_Call_keeps := rfl
  have p3 : c_law04_model_do.law04_model_crash = w_law04_model_crash := rfl
  have p4 : c_law04_model_do.law04_model_at = w_law04_model_at := rfl
  have p5 : c_law04_model_do.law04_model_wrong = w_law04_model_wrong := rfl
  have p6 : c_law04_model_do.law04_model_drop = w_law04_model_drop := rfl
  have p7 : c_law04_model_do.law04_model_put = w_law04_model_put := rfl
  have hr := law04_model_do_eq (R := AVal × Heap) c_law04_model_do 0 (some (m.p, 0)) ⟨ck, cn, cname, cto, cdata⟩ σ fun v σ => some (v, σ)
  have hK := K_law04_model_do c_law04_model_do ok_law04_Call_kind ok_law04_Call_keeps ok_law04_model_crash ok_law04_model_at ok_law04_model_wrong ok_law04_model_drop ok_law04_model_put
  rw [p1, w_law04_Call_kind, Option.bind_some, p2, p3, p4, p5, p6, p7] at hr
  dsimp only at hr
  obtain ⟨c0, c1, c2, c3⟩ := h.cells rdw
  rw [Nat.zero_add] at c2
  have hXo : ∀ c, cdata.b = some c → c ∉ m.foot := fun c hc hm => by
    obtain ⟨cs, hcs⟩ := hro c hc
    rw [MD.foot, List.mem_cons] at hm
    rcases hm with rfl | hm
    · rw [h.hd] at hcs; cases hcs
    · rcases h.at_ with ⟨g1, _⟩ | ⟨b, g1, _, g2⟩
      · rw [g1] at hm; simp at hm
      · rw [g1] at hm; simp at hm; subst hm; rw [g2] at hcs; cases hcs
  unfold doM
  by_cases k6 : kindI ck = 6
  · rw [show (kindI ck == 6) = true by simpa using k6, cond_true, Option.bind_some] at hr
    dsimp only at hr
    rw [if_pos k6]
    obtain ⟨g1, g2⟩ := h.setHead m.quota (if (-1) > cn then (-1) else cn) m.down
    have e1 := md_store h 2 (.int .i64 (if (-1) > cn then (-1) else cn)) (by decide)
    rw [show m.head.set 2 (.int .i64 (if (-1) > cn then (-1) else cn)) = MD.head { m with quota := m.quota, left := (if (-1) > cn then (-1) else cn), down := m.down } from rfl] at e1
    rw [Nat.zero_add, e1, Option.bind_some] at hr
    exact ⟨_, _, call_ok ok hK hr, g1, g2, rfl⟩
  rw [show (kindI ck == 6) = false by simpa using k6, cond_false] at hr
  rw [if_neg k6]
  by_cases k7 : kindI ck = 7
  · have A := fresh_own eI64 σ false (keepsV cn pdata) (by simp)
    have AP := fresh_pre eI64 σ false (keepsV cn pdata)
    have AN := fresh_new eI64 σ false (keepsV cn pdata)
    rw [show (kindI ck == 7) = true by simpa using k7, cond_true, hkeeps, Option.bind_some] at hr
    generalize fresh eI64 σ false (keepsV cn pdata) = q at A AP AN hr
    obtain ⟨σ', m', r1, r2, r3, r4⟩ := w_law04_model_crash_ex (h.pre AP) hs (A.is (by simp [keepsV]; omega)) (fun c hc hm => by have := AN c hc; have := h.foot_lt hm; omega)
    rw [r1, Option.bind_some] at hr
    rw [if_pos k7]
    refine ⟨σ', m', call_ok ok hK hr, r2, (MFr.of_pre AP).trans r3, ?_⟩
    rw [r4]
  rw [show (kindI ck == 7) = false by simpa using k7, cond_false] at hr
  rw [if_neg k7]
  have hat : w_law04_model_at (some (m.p, 0)) cname σ = some (((posN m.l cname : Int), thereN m.l cname), σ) := mdRd_eq (mo := .rw) rdw h
  have hwr := w_law04_model_wrong_eq (c := ⟨ck, cn, cname, cto, cdata⟩) (there := thereN m.l cname) h (by omega) (by have := hdata.n; dsimp only; omega)
  dsimp only at hwr
  rw [hdata.n] at hwr
  rw [hat, Option.bind_some] at hr
  dsimp only at hr
  rw [hwr, Option.bind_some] at hr
  dsimp only at hr
  by_cases hw : wrongV m (kindI ck) cname cto pdata.length (thereN m.l cname) ≠ 0
  · rw [show (wrongV m (kindI ck) cname cto pdata.length (thereN m.l cname) != 0) = true by simpa using hw, cond_true] at hr
    rw [if_pos hw]
    exact ⟨σ, m, call_ok ok hK hr, h, MFr.refl, rfl⟩
  rw [show (wrongV m (kindI ck) cname cto pdata.length (thereN m.l cname) != 0) = false by simpa using hw, cond_false, Option.bind_some] at hr
  dsimp only at hr
  rw [Nat.zero_add, c2, Option.bind_some] at hr
  rw [if_neg hw]
  by_cases hl0 : m.left = 0
  · rw [show (m.left == 0) = true by simpa using hl0, cond_true, Option.bind_some] at hr
    dsimp only at hr
    obtain ⟨g1, g2⟩ := h.setHead m.quota m.left true
    have e1 := md_store h 3 (.bool true) (by decide)
    rw [show m.head.set 3 (.bool true) = MD.head { m with quota := m.quota, left := m.left, down := true } from rfl] at e1
    rw [Nat.zero_add, e1, Option.bind_some] at hr
    rw [if_pos hl0]
    exact ⟨_, _, call_ok ok hK hr, g1, g2, rfl⟩
  rw [show (m.left == 0) = false by simpa using hl0, cond_false, Option.bind_some] at hr
  dsimp only at hr
  rw [Nat.zero_add, c2, Option.bind_some] at hr
  rw [if_neg hl0]
  dsimp only
  have hthere : 2 ≤ kindI ck → ∃ o, m.l[posN m.l cname]? = some o := fun hk => by
    refine there_at ?_
    cases ht : thereN m.l cname with
    | true => rfl
    | false =>
      refine absurd ?_ hw
      unfold wrongV
      rw [ht]
      split
      · decide
      split
      · decide
      split
      · decide
      split
      · decide
      · rw [if_pos ⟨hk, rfl⟩]; decide
  by_cases hgt : m.left > 0
  · rw [decide_eq_true hgt, cond_true, Option.bind_some] at hr
    dsimp only at hr
    rw [Nat.zero_add, c2, Option.bind_some, Option.bind_some] at hr
    dsimp only at hr
    obtain ⟨g1, g2⟩ := h.setHead m.quota (m.left - 1) m.down
    have e1 := md_store h 2 (.int .i64 (m.left - 1)) (by decide)
    rw [show m.head.set 2 (.int .i64 (m.left - 1)) = MD.head { m with quota := m.quota, left := m.left - 1, down := m.down } from rfl] at e1
    rw [Nat.zero_add, wrap_i64_of (n := m.left - 1) (by omega) (by omega), e1, Option.bind_some] at hr
    obtain ⟨X1, X2⟩ := is_mfr hdata g2 hXo
    generalize σ.set m.p (.row (MD.head { m with quota := m.quota, left := m.left - 1, down := m.down }) .rw) = σ1 at g1 g2 hr X1
    by_cases k2 : kindI ck = 2
    · obtain ⟨o, ho⟩ := hthere (by omega)
      obtain ⟨σ', m', r1, r2, r3, r4⟩ := edit2 g1 (i := posN m.l cname) ho
      dsimp only at r1 r4
      rw [show (kindI ck == 2) = true by simpa using k2, cond_true] at hr
      refine ⟨σ', m', call_ok ok hK (hr.trans r1), r2, g2.trans r3, ?_⟩
      rw [r4]; unfold editM; rw [if_pos k2, oneAt_eq ho, if_pos hgt]
    rw [show (kindI ck == 2) = false by simpa using k2, cond_false] at hr
    by_cases k3 : kindI ck = 3
    · obtain ⟨o, ho⟩ := hthere (by omega)
      obtain ⟨σ', m', r1, r2, r3, r4⟩ := edit3 g1 (i := posN m.l cname) ho cto
      dsimp only at r1 r4
      rw [show (kindI ck == 3) = true by simpa using k3, cond_true] at hr
      refine ⟨σ', m', call_ok ok hK (hr.trans r1), r2, g2.trans r3, ?_⟩
      rw [r4]; unfold editM; rw [if_neg k2, if_pos k3, oneAt_eq ho, if_pos hgt]
    rw [show (kindI ck == 3) = false by simpa using k3, cond_false] at hr
    by_cases k4 : kindI ck = 4
    · obtain ⟨o, ho⟩ := hthere (by omega)
      obtain ⟨σ', m', r1, r2, r3, r4⟩ := edit4 g1 (i := posN m.l cname) (List.getElem?_eq_some_iff.1 ho).1
      dsimp only at r1 r4
      rw [show (kindI ck == 4) = true by simpa using k4, cond_true] at hr
      refine ⟨σ', m', call_ok ok hK (hr.trans r1), r2, g2.trans r3, ?_⟩
      rw [r4]; unfold editM; rw [if_neg k2, if_neg k3, if_pos k4, if_pos hgt]
    rw [show (kindI ck == 4) = false by simpa using k4, cond_false] at hr
    by_cases k5 : kindI ck = 5
    · obtain ⟨o, ho⟩ := hthere (by omega)
      obtain ⟨σ', m', r1, r2, r3, r4⟩ := edit5 g1 (i := posN m.l cname) ho cn
      dsimp only at r1 r4
      rw [show (kindI ck == 5) = true by simpa using k5, cond_true] at hr
      refine ⟨σ', m', call_ok ok hK (hr.trans r1), r2, g2.trans r3, ?_⟩
      rw [r4]; unfold editM; rw [if_neg k2, if_neg k3, if_neg k4, if_pos k5, oneAt_eq ho, if_pos hgt]
    rw [show (kindI ck == 5) = false by simpa using k5, cond_false] at hr
    cases ht : thereN m.l cname with
    | false =>
      obtain ⟨σ', m', r1, r2, r3, r4⟩ := edit0 g1 (i := posN m.l cname) (posN_le _ _) (show m.l.length < 99999 by omega) cname X1 X2 (by omega)
      dsimp only at r1 r4
      rw [ht, Bool.not_false, cond_true] at hr
      refine ⟨σ', m', call_ok ok hK (hr.trans r1), r2, g2.trans r3, ?_⟩
      rw [r4]; unfold editM; rw [if_neg k2, if_neg k3, if_neg k4, if_neg k5, if_neg (by simp), if_pos hgt]
    | true =>
      obtain ⟨o, ho⟩ := there_at ht
      obtain ⟨σ', m', r1, r2, r3, r4⟩ := edit1 g1 (i := posN m.l cname) ho X1 (by have := hs o (List.mem_of_getElem? ho); omega)
      dsimp only at r1 r4
      rw [ht, Bool.not_true, cond_false] at hr
      refine ⟨σ', m', call_ok ok hK (hr.trans r1), r2, g2.trans r3, ?_⟩
      rw [r4]; unfold editM; rw [if_neg k2, if_neg k3, if_neg k4, if_neg k5, if_pos rfl, oneAt_eq ho, if_pos hgt]
  · rw [decide_eq_false hgt, cond_false] at hr
    by_cases k2 : kindI ck = 2
    · obtain ⟨o, ho⟩ := hthere (by omega)
      obtain ⟨σ', m', r1, r2, r3, r4⟩ := edit2 h (i := posN m.l cname) ho
      skip
      rw [show (kindI ck == 2) = true by simpa using k2, cond_true] at hr
      refine ⟨σ', m', call_ok ok hK (hr.trans r1), r2, r3, ?_⟩
      rw [r4]; unfold editM; rw [if_pos k2, oneAt_eq ho, if_neg hgt]
    rw [show (kindI ck == 2) = false by simpa using k2, cond_false] at hr
    by_cases k3 : kindI ck = 3
    · obtain ⟨o, ho⟩ := hthere (by omega)
      obtain ⟨σ', m', r1, r2, r3, r4⟩ := edit3 h (i := posN m.l cname) ho cto
      skip
      rw [show (kindI ck == 3) = true by simpa using k3, cond_true] at hr
      refine ⟨σ', m', call_ok ok hK (hr.trans r1), r2, r3, ?_⟩
      rw [r4]; unfold editM; rw [if_neg k2, if_pos k3, oneAt_eq ho, if_neg hgt]
    rw [show (kindI ck == 3) = false by simpa using k3, cond_false] at hr
    by_cases k4 : kindI ck = 4
    · obtain ⟨o, ho⟩ := hthere (by omega)
      obtain ⟨σ', m', r1, r2, r3, r4⟩ := edit4 h (i := posN m.l cname) (List.getElem?_eq_some_iff.1 ho).1
      skip
      rw [show (kindI ck == 4) = true by simpa using k4, cond_true] at hr
      refine ⟨σ', m', call_ok ok hK (hr.trans r1), r2, r3, ?_⟩
      rw [r4]; unfold editM; rw [if_neg k2, if_neg k3, if_pos k4, if_neg hgt]
    rw [show (kindI ck == 4) = false by simpa using k4, cond_false] at hr
    by_cases k5 : kindI ck = 5
    · obtain ⟨o, ho⟩ := hthere (by omega)
      obtain ⟨σ', m', r1, r2, r3, r4⟩ := edit5 h (i := posN m.l cname) ho cn
      skip
      rw [show (kindI ck == 5) = true by simpa using k5, cond_true] at hr
      refine ⟨σ', m', call_ok ok hK (hr.trans r1), r2, r3, ?_⟩
      rw [r4]; unfold editM; rw [if_neg k2, if_neg k3, if_neg k4, if_pos k5, oneAt_eq ho, if_neg hgt]
    rw [show (kindI ck == 5) = false by simpa using k5, cond_false] at hr
    cases ht : thereN m.l cname with
    | false =>
      obtain ⟨σ', m', r1, r2, r3, r4⟩ := edit0 h (i := posN m.l cname) (posN_le _ _) (show m.l.length < 99999 by omega) cname hdata hXo (by omega)
      skip
      rw [ht, Bool.not_false, cond_true] at hr
      refine ⟨σ', m', call_ok ok hK (hr.trans r1), r2, r3, ?_⟩
      rw [r4]; unfold editM; rw [if_neg k2, if_neg k3, if_neg k4, if_neg k5, if_neg (by simp), if_neg hgt]
    | true =>
      obtain ⟨o, ho⟩ := there_at ht
      obtain ⟨σ', m', r1, r2, r3, r4⟩ := edit1 h (i := posN m.l cname) ho hdata (by have := hs o (List.mem_of_getElem? ho); omega)
      skip
      rw [ht, Bool.not_true, cond_false] at hr
      refine ⟨σ', m', call_ok ok hK (hr.trans r1), r2, r3, ?_⟩
      rw [r4]; unfold editM; rw [if_neg k2, if_neg k3, if_neg k4, if_neg k5, if_pos rfl, oneAt_eq ho, if_neg hgt]
end Go.Abs.TC
namespace Go.Abs.TC
open Go Go.Abs Go.Proofs

structure Like (t : Sto) (m : MD) : Prop where
  view : View t.fs m.l
  q : m.quota = t.quota
  left : m.left = if t.armed then t.left else -1
  down : m.down = t.down
structure Res (t : Sto) (r : Int × Sto) (x : Int × (List law04_one × Int × Bool)) : Prop where
  code : x.1 = r.1
  view : View r.2.fs x.2.1
  q : r.2.quota = t.quota
  left : x.2.2.1 = if r.2.armed then r.2.left else -1
  down : x.2.2.2 = r.2.down
theorem ba_app (xs ys : List UInt8) : (⟨xs.toArray⟩ : ByteArray) ++ ⟨ys.toArray⟩ = ⟨(xs ++ ys).toArray⟩ := by
  apply ByteArray.ext
  simp
theorem ba_size (xs : List UInt8) : (⟨xs.toArray⟩ : ByteArray).size = xs.length := by simp [ByteArray.size]
section
variable {t : Sto} {m : MD}
theorem chg (hL : Like t m) (hl : LeftOkS t) : (m.left = 0 ∧ t.change = (8, { t with down := true })) ∨
    (m.left ≠ 0 ∧ t.change.1 = 0 ∧ t.change.2.fs = t.fs ∧ t.change.2.quota = t.quota ∧ t.change.2.down = t.down ∧ (if m.left > 0 then m.left - 1 else m.left) = if t.change.2.armed then t.change.2.left else -1) := by
  have hleft := hL.left
  rcases change_cases t with ⟨c1, c2, c3⟩ | ⟨c1, c2, c3, c4, c5, c6, c7⟩
  · rw [if_pos c1] at hleft
    exact .inl ⟨hleft.trans c2, c3⟩
  · refine .inr ⟨fun e => ?_, c2, c6, c5, c3, ?_⟩
    · by_cases ha : t.armed = true
      · rw [if_pos ha] at hleft; exact c1 ⟨ha, hleft.symm.trans e⟩
      · rw [if_neg ha] at hleft; omega
    · rw [c7, c4]
      by_cases ha : t.armed = true
      · rw [if_pos ha] at hleft
        have := hl ha
        have h0 : t.left ≠ 0 := fun e => c1 ⟨ha, e⟩
        rw [if_pos ha, if_pos ha, hleft, if_pos (by omega)]
      · rw [if_neg ha] at hleft
        rw [if_neg ha, hleft]
        rfl
/-- What is done to a file that is there. -/
theorem like_file (hL : Like t m) (hl : LeftOkS t) (hd : t.down = false) {n : ByteArray} {f : Fil} (hg : t.get n = some f) {op : Fil → Sto → Sto} {l' : List law04_one}
    (hop : ∀ u : Sto, u.fs = t.fs → View (op f u).fs l' ∧ (op f u).quota = u.quota ∧ (op f u).armed = u.armed ∧ (op f u).left = u.left ∧ (op f u).down = u.down) :
    Res t (t.onFile n op) (if m.left = 0 then (8, m.l, m.left, true) else (0, l', (if m.left > 0 then m.left - 1 else m.left), m.down)) := by
  rcases chg hL hl with ⟨c1, c2⟩ | ⟨c1, c2, c3, c4, c5, c6⟩
  · rw [onFile_no hd hg (by rw [c2]; exact (by decide : (8 : Int) ≠ 0)), c2, if_pos c1]
    exact ⟨rfl, hL.view, rfl, hL.left, rfl⟩
  · rw [onFile_yes hd hg c2, if_neg c1]
    obtain ⟨e1, e2, e3, e4, e5⟩ := hop t.change.2 c3
    exact ⟨rfl, e1, e2.trans c4, by rw [show (0, op f t.change.2).2 = op f t.change.2 from rfl, e3, e4]; exact c6, by rw [show (0, op f t.change.2).2 = op f t.change.2 from rfl, e5, c5]; exact hL.down⟩
theorem putL_erase {l : List law04_one} {j : Nat} (hj : j < l.length) (y : law04_one) : putL (l.eraseIdx j) j y = l.set j y := by
  have htl : (l.take j).length = j := by rw [List.length_take]; omega
  unfold putL
  rw [List.eraseIdx_eq_take_drop_succ, List.set_eq_take_append_cons_drop, if_pos hj, List.take_append_of_le_length (by omega), List.take_of_length_le (by omega), List.drop_append_of_le_length (by omega), List.drop_of_length_le (by omega), List.nil_append]
theorem doC2 {p : PCall} (h : kindI p.Kind = 2) : t.doC p = t.sync p.Name := by unfold Sto.doC; rw [if_pos h]
theorem doC3 {p : PCall} (h : kindI p.Kind = 3) : t.doC p = t.rename p.Name p.To := by unfold Sto.doC; rw [if_neg (by omega), if_pos h]
theorem doC4 {p : PCall} (h : kindI p.Kind = 4) : t.doC p = t.delete p.Name := by unfold Sto.doC; rw [if_neg (by omega), if_neg (by omega), if_pos h]
theorem doC5 {p : PCall} (h : kindI p.Kind = 5) : t.doC p = t.cut p.Name p.N := by unfold Sto.doC; rw [if_neg (by omega), if_neg (by omega), if_neg (by omega), if_pos h]
theorem doC6 {p : PCall} (h : kindI p.Kind = 6) : t.doC p = (0, t.fuse p.N) := by unfold Sto.doC; rw [if_neg (by omega), if_neg (by omega), if_neg (by omega), if_neg (by omega), if_pos h]
theorem doC7 {p : PCall} (h : kindI p.Kind = 7) : t.doC p = (0, t.crash (keepsV p.N p.Data)) := by unfold Sto.doC; rw [if_neg (by omega), if_neg (by omega), if_neg (by omega), if_neg (by omega), if_neg (by omega), if_pos h]
theorem doC1 {p : PCall} (h : kindI p.Kind < 2) : t.doC p = t.append p.Name p.Data := by unfold Sto.doC; rw [if_neg (by omega), if_neg (by omega), if_neg (by omega), if_neg (by omega), if_neg (by omega), if_neg (by omega)]
theorem like_do (hL : Like t m) (hG : t.Good) (hl : LeftOkS t) (p : PCall) : Res t (t.doC p) (doM m p) := by
  obtain ⟨kk, k7', hkk⟩ := kindI_lt p.Kind
  by_cases k6 : kindI p.Kind = 6
  · have e1 : doM m p = (0, m.l, (if (-1) > p.N then (-1) else p.N), m.down) := by unfold doM; rw [if_pos k6]
    rw [e1, doC6 k6]
    refine ⟨rfl, hL.view, rfl, ?_, hL.down⟩
    simp only [Sto.fuse, decide_eq_true_eq]
    split <;> split <;> omega
  by_cases k7 : kindI p.Kind = 7
  · have e1 : doM m p = (0, crashL (keepsV p.N p.Data) m.l.length 0 m.l, -1, false) := by unfold doM; rw [if_neg k6, if_pos k7]
    rw [e1, doC7 k7]
    have hn : (m.l.map law04_one.name).drop 0 = t.names := hL.view.names
    have hV := hL.view.crash (keepsV p.N p.Data) hG.sure hn
    rw [names_len, ← hL.view.len] at hV
    exact ⟨rfl, hV, rfl, rfl, rfl⟩
  have eD : doM m p = (if wrongV m (kindI p.Kind) p.Name p.To p.Data.length (thereN m.l p.Name) ≠ 0 then (wrongV m (kindI p.Kind) p.Name p.To p.Data.length (thereN m.l p.Name), m.l, m.left, m.down) else
            if m.left = 0 then (8, m.l, m.left, true) else (0, editM m.l (kindI p.Kind) (posN m.l p.Name) (thereN m.l p.Name) p, (if m.left > 0 then m.left - 1 else m.left), m.down)) := by unfold doM; rw [if_neg k6, if_neg k7]
  rw [eD]
  clear eD
  have hus := hL.view.used
  -- the store is down
  cases hd : t.down with
  | true =>
    have hw : wrongV m (kindI p.Kind) p.Name p.To p.Data.length (thereN m.l p.Name) = 8 := by unfold wrongV; rw [hL.down, hd, if_pos rfl]
    rw [hw, if_pos (by decide)]
    have hr : ∀ r, r = (8, t) → Res t r (8, m.l, m.left, m.down) := fun r e => by rw [e]; exact ⟨rfl, hL.view, rfl, hL.left, hL.down⟩
    refine hr _ ?_
    by_cases k2 : kindI p.Kind = 2
    · rw [doC2 k2]; exact onFile_down hd
    by_cases k3 : kindI p.Kind = 3
    · rw [doC3 k3]; unfold Sto.rename; rw [if_neg (fun h => by rw [hd] at h; cases h.1)]; exact onFile_down hd
    by_cases k4 : kindI p.Kind = 4
    · rw [doC4 k4]; exact onFile_down hd
    by_cases k5 : kindI p.Kind = 5
    · rw [doC5 k5]; exact onFile_down hd
    rw [doC1 (by omega)]
    unfold Sto.append
    rw [if_pos hd]
  | false =>
    have hmd : ¬ m.down = true := by rw [hL.down, hd]; decide
    by_cases k1 : kindI p.Kind < 2
    · -- append
      rw [doC1 k1]
      have eA : t.append p.Name p.Data = if nameOk p.Name = false then ((3 : Int), t) else if t.quota < t.used + p.Data.length then ((5 : Int), t) else
        if t.change.1 = 0 then ((0 : Int), t.change.2.put (match t.get p.Name with | some f => { f with data := f.data ++ p.Data } | none => ⟨p.Name, p.Data, 0⟩)) else t.change := by
        unfold Sto.append; rw [if_neg (by rw [hd]; decide)]; rfl
      have eW : wrongV m (kindI p.Kind) p.Name p.To p.Data.length (thereN m.l p.Name) = if nameOk p.Name = false then 3 else if t.quota < t.used + p.Data.length then 5 else 0 := by
        unfold wrongV
        rw [if_neg hmd]
        by_cases hn : nameOk p.Name = false
        · rw [if_pos ⟨k1, hn⟩, if_pos hn]
        · rw [if_neg (fun h => hn h.2), if_neg hn, if_neg (show ¬ (kindI p.Kind = 3 ∧ nameOk p.To = false) by omega), hL.q, hus, Sto.used_eq]
          by_cases hq : t.quota < usedL t.fs + p.Data.length
          · rw [if_pos ⟨k1, by omega⟩, if_pos hq]
          · rw [if_neg (fun h => hq (by have := h.2; omega)), if_neg hq, if_neg (show ¬ (2 ≤ kindI p.Kind ∧ thereN m.l p.Name = false) by omega)]
      rw [eA, eW]
      clear eA eW
      cases hn : nameOk p.Name with
      | false =>
        simp only [if_true]
        rw [if_pos (by decide)]
        exact ⟨rfl, hL.view, rfl, hL.left, hL.down⟩
      | true =>
        simp only [Bool.true_eq_false, if_false]
        by_cases hq : t.quota < t.used + p.Data.length
        · simp only [if_pos hq]
          rw [if_pos (by decide)]
          exact ⟨rfl, hL.view, rfl, hL.left, hL.down⟩
        · simp only [if_neg hq]
          rw [if_neg (show ¬ (0 : Int) ≠ 0 by decide)]
          rcases chg hL hl with ⟨c1, c2⟩ | ⟨c1, c2, c3, c4, c5, c6⟩
          · rw [if_pos c1, c2, if_neg (show ¬ (8 : Int) = 0 by decide)]
            exact ⟨rfl, hL.view, rfl, hL.left, rfl⟩
          · rw [if_neg c1, if_pos c2]
            have hE : editM m.l (kindI p.Kind) (posN m.l p.Name) (thereN m.l p.Name) p = if thereN m.l p.Name then m.l.set (posN m.l p.Name) { oneAt m.l (posN m.l p.Name) with data := (oneAt m.l (posN m.l p.Name)).data ++ ⟨p.Data.toArray⟩ } else putL m.l (posN m.l p.Name) ⟨p.Name, (⟨#[]⟩ : ByteArray) ++ ⟨p.Data.toArray⟩, 0⟩ := by
              unfold editM
              rw [if_neg (by omega), if_neg (by omega), if_neg (by omega), if_neg (by omega)]
            rw [hE]
            cases hg : t.get p.Name with
            | none =>
              rw [(hL.view.hasnt hg).1, if_neg (by simp)]
              refine ⟨rfl, ?_, c4, c6, by rw [hL.down]; exact c5.symm⟩
              have := hL.view.ins (x := ⟨p.Name, p.Data, 0⟩) hg rfl
              rw [show (⟨#[]⟩ : ByteArray) = ⟨([] : List UInt8).toArray⟩ from rfl, ba_app, List.nil_append]
              show View (putK Fil.name _ t.change.2.fs) _
              rw [c3]
              exact this
            | some f =>
              obtain ⟨h1, h2⟩ := hL.view.has hg
              rw [h2, if_pos rfl, oneAt_eq h1]
              refine ⟨rfl, ?_, c4, c6, by rw [hL.down]; exact c5.symm⟩
              have := hL.view.set (x := { f with data := f.data ++ p.Data }) hg (getK_mem hg).2
              show View (putK Fil.name _ t.change.2.fs) _
              rw [c3, show (oneOf f).data = ⟨f.data.toArray⟩ from rfl, ba_app]
              exact this
    · -- a file that is there, or not
      have h2 : 2 ≤ kindI p.Kind := by omega
      have noF : ∀ r, r = (4, t) → Res t r (4, m.l, m.left, m.down) := fun r e => by rw [e]; exact ⟨rfl, hL.view, rfl, hL.left, hL.down⟩
      have wV : ¬ (kindI p.Kind = 3 ∧ nameOk p.To = false) → wrongV m (kindI p.Kind) p.Name p.To p.Data.length (thereN m.l p.Name) = if thereN m.l p.Name = false then 4 else 0 := fun h => by
        unfold wrongV
        rw [if_neg hmd, if_neg (show ¬ (kindI p.Kind < 2 ∧ nameOk p.Name = false) by omega), if_neg h, if_neg (show ¬ (kindI p.Kind < 2 ∧ _) from fun h => k1 h.1)]
        by_cases ht : thereN m.l p.Name = false
        · rw [if_pos ⟨h2, ht⟩, if_pos ht]
        · rw [if_neg (fun h => ht h.2), if_neg ht]
      have go : ¬ (kindI p.Kind = 3 ∧ nameOk p.To = false) → ∀ (op : Fil → Sto → Sto), (∀ f, t.get p.Name = some f → ∀ u : Sto, u.fs = t.fs → View (op f u).fs (editM m.l (kindI p.Kind) (posN m.l p.Name) (thereN m.l p.Name) p) ∧ (op f u).quota = u.quota ∧ (op f u).armed = u.armed ∧ (op f u).left = u.left ∧ (op f u).down = u.down) →
          Res t (t.onFile p.Name op) (if wrongV m (kindI p.Kind) p.Name p.To p.Data.length (thereN m.l p.Name) ≠ 0 then (wrongV m (kindI p.Kind) p.Name p.To p.Data.length (thereN m.l p.Name), m.l, m.left, m.down) else
            if m.left = 0 then (8, m.l, m.left, true) else (0, editM m.l (kindI p.Kind) (posN m.l p.Name) (thereN m.l p.Name) p, (if m.left > 0 then m.left - 1 else m.left), m.down)) := fun h op hop => by
        rw [wV h]
        cases hg : t.get p.Name with
        | none =>
          rw [(hL.view.hasnt hg).1, if_pos rfl, if_pos (by decide)]
          exact noF _ (onFile_none hd hg)
        | some f =>
          rw [(hL.view.has hg).2, if_neg (show ¬ true = false by simp), if_neg (show ¬ (0 : Int) ≠ 0 by simp)]
          have := like_file hL hl hd hg (op := op) (hop f hg)
          rw [(hL.view.has hg).2] at this
          exact this
      by_cases k2 : kindI p.Kind = 2
      · rw [doC2 k2]
        refine go (by omega) _ fun f hg u hu => ⟨?_, rfl, rfl, rfl, rfl⟩
        have e : editM m.l (kindI p.Kind) (posN m.l p.Name) (thereN m.l p.Name) p = m.l.set (posN m.l p.Name) { oneOf f with sure := ((oneOf f).data.size : Int) } := by
          unfold editM; rw [if_pos k2, oneAt_eq (hL.view.has hg).1]
        rw [e]
        have := hL.view.set (x := { f with sure := f.data.length }) hg (getK_mem hg).2
        show View (putK Fil.name _ u.fs) _
        rw [hu, show ((oneOf f).data.size : Int) = (f.data.length : Int) by rw [show (oneOf f).data = ⟨f.data.toArray⟩ from rfl, ba_size]]
        exact this
      by_cases k3 : kindI p.Kind = 3
      · rw [doC3 k3]
        unfold Sto.rename
        cases hto : nameOk p.To with
        | false =>
          rw [if_pos ⟨hd, rfl⟩]
          have : wrongV m (kindI p.Kind) p.Name p.To p.Data.length (thereN m.l p.Name) = 3 := by
            unfold wrongV
            rw [if_neg hmd, if_neg (show ¬ (kindI p.Kind < 2 ∧ nameOk p.Name = false) by omega), if_pos ⟨k3, hto⟩]
          rw [this, if_pos (by decide)]
          exact ⟨rfl, hL.view, rfl, hL.left, hL.down⟩
        | true =>
          rw [if_neg (by simp)]
          refine go (by rw [hto]; simp) _ fun f hg u hu => ⟨?_, rfl, rfl, rfl, rfl⟩
          have hV := hL.view.del hg
          have e : editM m.l (kindI p.Kind) (posN m.l p.Name) (thereN m.l p.Name) p = if thereN (m.l.eraseIdx (posN m.l p.Name)) p.To then putL ((m.l.eraseIdx (posN m.l p.Name)).eraseIdx (posN (m.l.eraseIdx (posN m.l p.Name)) p.To)) (posN (m.l.eraseIdx (posN m.l p.Name)) p.To) (oneOf { f with name := p.To }) else putL (m.l.eraseIdx (posN m.l p.Name)) (posN (m.l.eraseIdx (posN m.l p.Name)) p.To) (oneOf { f with name := p.To }) := by
            unfold editM; rw [if_neg k2, if_pos k3, oneAt_eq (hL.view.has hg).1]; rfl
          rw [e]
          show View (putK Fil.name { f with name := p.To } (delK Fil.name p.Name u.fs)) _
          rw [hu]
          cases hg2 : getK Fil.name p.To (delK Fil.name p.Name t.fs) with
          | none =>
            rw [(hV.hasnt hg2).1, if_neg (by simp)]
            exact hV.ins (x := { f with name := p.To }) hg2 rfl
          | some g =>
            obtain ⟨h1, h2⟩ := hV.has hg2
            rw [h2, if_pos rfl, putL_erase (List.getElem?_eq_some_iff.1 h1).1]
            exact hV.set (x := { f with name := p.To }) hg2 rfl
      by_cases k4 : kindI p.Kind = 4
      · rw [doC4 k4]
        refine go (by omega) _ fun f hg u hu => ⟨?_, rfl, rfl, rfl, rfl⟩
        have e : editM m.l (kindI p.Kind) (posN m.l p.Name) (thereN m.l p.Name) p = m.l.eraseIdx (posN m.l p.Name) := by
          unfold editM; rw [if_neg k2, if_neg k3, if_pos k4]
        rw [e]
        show View (delK Fil.name p.Name u.fs) _
        rw [hu]
        exact hL.view.del hg
      have k5 : kindI p.Kind = 5 := by omega
      rw [doC5 k5]
      refine go (by omega) _ fun f hg u hu => ⟨?_, rfl, rfl, rfl, rfl⟩
      have e : editM m.l (kindI p.Kind) (posN m.l p.Name) (thereN m.l p.Name) p = m.l.set (posN m.l p.Name) (oneOf { f with data := f.data.take (cutN p.N f.data.length), sure := min f.sure (cutN p.N f.data.length) }) := by
        unfold editM
        rw [if_neg k2, if_neg k3, if_neg k4, if_pos k5, oneAt_eq (hL.view.has hg).1]
        congr 1
        have hs : (oneOf f).data.size = f.data.length := ba_size f.data
        rw [hs]
        unfold oneOf
        simp only [law04_one.mk.injEq, true_and]
        refine ⟨?_, ?_⟩
        · apply ByteArray.ext
          simp [cutI, cutN]
        · have : cutI p.N f.data.length = cutN p.N f.data.length := rfl
          rw [this]
          omega
      rw [e]
      show View (putK Fil.name _ u.fs) _
      rw [hu]
      exact hL.view.set hg (getK_mem hg).2
end
end Go.Abs.TC
