/-
Contracts of vary's reader.
-/
import Derived.Test.YtcfohnfnajfahaaDoorConB2
namespace Go.Abs.TA
open Go Go.Abs Go.Proofs

/-- A reader lies there. -/
def Rdr (σ : Heap) (p : Nat) (s : Sl) (bad : Bool) : Prop := σ[p]? = some (.row [.slice s.b s.o s.n 1, .bool bad] .rw)
def setR (σ : Heap) (p : Nat) (s : Sl) (bad : Bool) : Heap := σ.set p (.row [.slice s.b s.o s.n 1, .bool bad] .rw)
section
variable {σ : Heap} {p : Nat} {s : Sl} {bad : Bool}
theorem Rdr.lt (h : Rdr σ p s bad) : p < σ.length := (List.getElem?_eq_some_iff.1 h).1
theorem Rdr.row (h : Rdr σ p s bad) : σ.row? p = some [.slice s.b s.o s.n 1, .bool bad] := row?_of h (by simp)
theorem Rdr.cell0 (h : Rdr σ p s bad) : slice? (σ.cell? p 0) 1 = some (s.b, s.o, s.n) := by
  unfold Heap.cell?
  rw [h.row]
  rfl
theorem Rdr.cell1 (h : Rdr σ p s bad) : bool? (σ.cell? p (0 + 1)) = some bad := by
  unfold Heap.cell?
  rw [h.row]
  rfl
theorem Rdr.set (h : Rdr σ p s bad) (s' : Sl) (bad' : Bool) : Rdr (setR σ p s' bad') p s' bad' := by
  unfold Rdr setR
  exact List.getElem?_set_self h.lt
theorem Rdr.set_bad (h : Rdr σ p s bad) (b : Bool) : σ.store p (0 + 1) [.bool b] = some (setR σ p s b) := by
  unfold Heap.store
  unfold Rdr at h
  rw [h]
  rfl
theorem Rdr.set_sl (h : Rdr σ p s bad) (t : Sl) : σ.store p 0 [.slice t.b t.o t.n 1] = some (setR σ p t bad) := by
  unfold Heap.store
  unfold Rdr at h
  rw [h]
  rfl
theorem Rdr.uniq {s' : Sl} {bad' : Bool} (h : Rdr σ p s bad) (h' : Rdr σ p s' bad') : s = s' ∧ bad = bad' := by
  unfold Rdr at h h'
  rw [h] at h'
  simp at h'
  obtain ⟨⟨h1, h2, h3⟩, h4⟩ := h'
  refine ⟨?_, h4⟩
  cases s; cases s'
  simp at h1 h2 h3
  rw [h1, h2, h3]
theorem setR_len : (setR σ p s bad).length = σ.length := by simp [setR]
theorem setR_ne {b : Nat} (h : b ≠ p) : (setR σ p s bad)[b]? = σ[b]? := List.getElem?_set_ne (Ne.symm h)
end
theorem vtakeGo_le : ∀ (xs : List UInt8) (i n : Nat), (vtakeGo i n xs).2 ≤ i + xs.length
  | [], i, n => by simp [vtakeGo]
  | c :: cs, i, n => by
    rw [vtakeGo]
    split
    · simp
    · split
      · split
        · simp
        · simp only [List.length_cons]; omega
      · have := vtakeGo_le cs (i + 1) (n + c.toNat % 128 * 2 ^ (7 * i))
        simp; omega
theorem vtake_le (xs : List UInt8) : (vtake xs).2 ≤ xs.length := by
  have := vtakeGo_le xs 0 0
  unfold vtake
  omega
/-- Is there a number below a limit? -/
def numOK (bad : Bool) (xs : List UInt8) (limit : Int) : Bool := !bad && decide ((vtake xs).2 ≠ 0 ∧ ((vtake xs).1 : Int) < limit)
structure NumPre (r : Pt) (limit : Int) (σ : Heap) (p : Nat) (s : Sl) (bad : Bool) (xs : List UInt8) : Prop where
  at_ : r = some (p, 0)
  rdr : Rdr σ p s bad
  is : s.Is eU8 σ xs
  l0 : 0 < limit
  l1 : limit ≤ 9223372036854775807
def numRes (limit : Int) (σ : Heap) (p : Nat) (s : Sl) (bad : Bool) (xs : List UInt8) : Int × Heap :=
  bif numOK bad xs limit then (((vtake xs).1 : Int), setR σ p ⟨s.b, s.o + (vtake xs).2 * 1, s.n - (vtake xs).2⟩ bad) else (0, setR σ p s true)
noncomputable def w_vary_Reader_Num (r : Pt) (limit : Int) (σ : Heap) : Option (Int × Heap) :=
  wOf (fun t : Nat × Sl × Bool × List UInt8 => NumPre r limit σ t.1 t.2.1 t.2.2.1 t.2.2.2) fun t => numRes limit σ t.1 t.2.1 t.2.2.1 t.2.2.2
theorem w_vary_Reader_Num_eq {r : Pt} {limit : Int} {σ : Heap} {p : Nat} {s : Sl} {bad : Bool} {xs : List UInt8} (h : NumPre r limit σ p s bad xs) : w_vary_Reader_Num r limit σ = some (numRes limit σ p s bad xs) :=
  wOf_eq (x := (p, s, bad, xs)) h fun y hy => by
    obtain ⟨p', s', bad', xs'⟩ := y
    have e1 := hy.at_
    rw [h.at_] at e1
    simp at e1
    subst e1
    obtain ⟨e2, e3⟩ := h.rdr.uniq hy.rdr
    simp only at e2 e3
    subst e2; subst e3
    rw [show xs' = xs from hy.is.uniq (by decide) h.is]
noncomputable def c_vary_Reader_Num : C_vary_Reader_Num := ⟨w_vary_Take⟩
theorem ok_vary_Reader_Num : Ok_vary_Reader_Num w_vary_Reader_Num := fun r limit σ v σ' h => by
  obtain ⟨⟨p, s, bad, xs⟩, hp, e⟩ := wOf_some h
  obtain ⟨rfl, hr, hs, l0, l1⟩ := hp
  simp only at hr hs
  obtain ⟨rfl, rfl⟩ : v = (numRes limit σ p s bad xs).1 ∧ σ' = (numRes limit σ p s bad xs).2 := by rw [e]; exact ⟨rfl, rfl⟩
  refine call_ok ok (K_vary_Reader_Num c_vary_Reader_Num ok_vary_Take) (L := 0) (n := 2) ((vary_Reader_Num_eq c_vary_Reader_Num 0 (some (p, 0)) limit σ _).trans ?_)
  have p1 : c_vary_Reader_Num.vary_Take = w_vary_Take := rfl
  have hk := vtake_le xs
  have hT : w_vary_Take ⟨s.b, s.o, s.n⟩ σ = some ((((vtake xs).1 : Int), ((vtake xs).2 : Int)), σ) := w_vary_Take_eq hs
  simp only [Option.bind_some, hr.cell0, p1, hT, hr.cell1, hr.set_bad]
  show _ = some (AVal.int .i64 (numRes limit σ p s bad xs).1, (numRes limit σ p s bad xs).2)
  have bad_res : numOK bad xs limit = false → numRes limit σ p s bad xs = (0, setR σ p s true) := fun h => by unfold numRes; rw [h]; rfl
  cases bad with
  | true =>
    rw [bad_res rfl]
    rfl
  | false =>
    simp only [cond_false]
    by_cases h0 : (vtake xs).2 = 0
    · rw [show (((vtake xs).2 : Int) == 0) = true by rw [h0]; rfl, cond_true, bad_res (by simp [numOK, h0])]
    · rw [show (((vtake xs).2 : Int) == 0) = false by rw [beq_eq_false_iff_ne]; omega, cond_false]
      by_cases h1 : ((vtake xs).1 : Int) < limit
      · rw [show decide (((vtake xs).1 : Int) > 9223372036854775807) = false by rw [decide_eq_false_iff_not]; omega, cond_false, show decide (limit > 0) = true by simpa using l0, cond_true,
          show decide (((vtake xs).1 : Int) ≥ IntKind.u64.wrap limit) = false by rw [decide_eq_false_iff_not, IntKind.wrap_u64]; omega, cond_false]
        simp only [dec0, hs.n, show decide (((vtake xs).2 : Int) ≤ (xs.length : Int)) = true by simpa using hk, Int.le_refl, decide_true, Bool.and_self, cond_true, Int.toNat_natCast]
        have hst := hr.set_sl ⟨s.b, s.o + (vtake xs).2 * 1, xs.length - (vtake xs).2⟩
        simp only at hst
        rw [hst, Option.bind_some, wrap_i64_of (by omega) (by omega)]
        have : numOK false xs limit = true := by simp [numOK, h0, h1]
        unfold numRes
        rw [this, hs.n]
        rfl
      · rw [bad_res (by simp [numOK, h1])]
        by_cases h2 : ((vtake xs).1 : Int) > 9223372036854775807
        · rw [decide_eq_true h2, cond_true]
        · rw [decide_eq_false h2, cond_false, show decide (limit > 0) = true by simpa using l0, cond_true,
            show decide (((vtake xs).1 : Int) ≥ IntKind.u64.wrap limit) = true by rw [decide_eq_true_iff, IntKind.wrap_u64]; omega, cond_true]

noncomputable def w_vary_Reader_Good (r : Pt) (σ : Heap) : Option (Bool × Heap) := wOf (fun t : Nat × Sl × Bool => r = some (t.1, 0) ∧ Rdr σ t.1 t.2.1 t.2.2) fun t => (!t.2.2, σ)
theorem w_vary_Reader_Good_eq {σ : Heap} {p : Nat} {s : Sl} {bad : Bool} (h : Rdr σ p s bad) : w_vary_Reader_Good (some (p, 0)) σ = some (!bad, σ) :=
  wOf_eq (x := (p, s, bad)) ⟨rfl, h⟩ fun y hy => by
    obtain ⟨p', s', bad'⟩ := y
    obtain ⟨e1, e2⟩ := hy
    simp at e1
    subst e1
    simp only [(h.uniq e2).2]
theorem ok_vary_Reader_Good : Ok_vary_Reader_Good w_vary_Reader_Good := fun r σ v σ' h => by
  obtain ⟨⟨p, s, bad⟩, ⟨rfl, hr⟩, e⟩ := wOf_some h
  injection e with e1 e2
  subst e1; subst e2
  refine call_ok ok known0_ok (L := 0) (n := 2) ((vary_Reader_Good_eq 0 (some (p, 0)) σ _).trans ?_)
  simp only at hr
  simp only [Option.bind_some, hr.cell1]
  rfl
def w_vary_Of (b : Sl) (σ : Heap) : Option (Pt × Heap) := some (some (σ.length, 0), σ ++ [.row [.slice b.b b.o b.n 1, .bool false] .rw])
theorem ok_vary_Of : Ok_vary_Of w_vary_Of := fun b σ v σ' h => by
  injection h with h; injection h with h1 h2; subst h1; subst h2
  exact call_ok ok known0_ok (L := 0) (n := 2) (vary_Of_eq 0 b σ _)
end Go.Abs.TA
