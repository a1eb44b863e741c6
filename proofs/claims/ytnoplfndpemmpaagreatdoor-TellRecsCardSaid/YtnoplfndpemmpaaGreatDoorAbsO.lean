/-
Ops as bytes, plain: they come back from their bytes, and bytes are the bytes of the ops that are read.
-/
import Derived.Test.YtnoplfndpemmpaaGreatDoorAbsV
namespace Go.Abs
open Go

/-- What a reader has left; none: it is bad. -/
abbrev RS := Option (List UInt8)
def numV (lim : Nat) : RS → Nat × RS
  | none => (0, none)
  | some xs => if (vtake xs).2 ≠ 0 ∧ (vtake xs).1 < lim then ((vtake xs).1, some (xs.drop (vtake xs).2)) else (0, none)
def textV (most : Nat) (st : RS) : List UInt8 × RS :=
  match numV (most + 1) st with
  | (_, none) => ([], none)
  | (n, some xs) => if n ≤ xs.length then (xs.take n, some (xs.drop n)) else ([], none)
theorem numV_put {n lim : Nat} (h : n < lim) (hl : lim ≤ 9223372036854775808) (r : List UInt8) : numV lim (some (vput n ++ r)) = (n, some r) := by
  have hne : (vput n).length ≠ 0 := fun e => vput_ne n (List.eq_nil_of_length_eq_zero e)
  show (if (vtake (vput n ++ r)).2 ≠ 0 ∧ (vtake (vput n ++ r)).1 < lim then ((vtake (vput n ++ r)).1, some ((vput n ++ r).drop (vtake (vput n ++ r)).2)) else (0, none)) = _
  rw [vtake_vput (by omega), if_pos ⟨hne, h⟩, List.drop_left]
theorem numV_some {n lim : Nat} {st : RS} {ys : List UInt8} (h : numV lim st = (n, some ys)) : ∃ xs, st = some xs ∧ n < lim ∧ xs = vput n ++ ys := by
  cases st with
  | none => simp [numV] at h
  | some xs =>
    unfold numV at h
    simp only at h
    split at h
    · rename_i hc
      injection h with h1 h2
      injection h2 with h2
      refine ⟨xs, rfl, by omega, ?_⟩
      rw [← h1, ← h2]
      exact vtake_canon hc.1
    · simp at h
theorem numV_none (lim : Nat) : numV lim none = (0, none) := rfl
theorem textV_put {d : List UInt8} {most : Nat} (h : d.length ≤ most) (hm : most < 9223372036854775808) (r : List UInt8) : textV most (some (vput d.length ++ (d ++ r))) = (d, some r) := by
  unfold textV
  rw [numV_put (by omega) (by omega)]
  simp only
  rw [if_pos (by simp), List.take_left, List.drop_left]
theorem textV_some {d : List UInt8} {most : Nat} {st : RS} {ys : List UInt8} (h : textV most st = (d, some ys)) : ∃ xs, st = some xs ∧ d.length ≤ most ∧ xs = vput d.length ++ (d ++ ys) := by
  unfold textV at h
  split at h
  · simp at h
  · rename_i n zs hn
    obtain ⟨xs, h1, h2, h3⟩ := numV_some hn
    split at h
    · rename_i hc
      injection h with h4 h5
      injection h5 with h5
      refine ⟨xs, h1, ?_, ?_⟩
      · rw [← h4, List.length_take]; omega
      · rw [← h4, ← h5, List.take_append_drop, List.length_take, Nat.min_eq_left hc, h3]
    · simp at h
theorem textV_none (most : Nat) : textV most none = ([], none) := rfl

/-! ### Ops -/
structure POp where
  k : Nat
  c : Nat
  p : Nat
  n : Nat
  w : Nat
  h : Nat
  d : List UInt8
structure POp.Tame (o : POp) : Prop where
  k : o.k < 9
  c : o.c < 1024
  p : o.p < 1024
  n : o.n < 9223372036854775808
  w : o.w < 1024
  h : o.h < 1024
  d : o.d.length ≤ 401
def opB (o : POp) : List UInt8 := vput o.k ++ (vput o.c ++ (vput o.p ++ (vput o.n ++ (vput o.w ++ (vput o.h ++ (vput o.d.length ++ o.d))))))
def opsB : List POp → List UInt8
  | [] => []
  | o :: l => opB o ++ opsB l
theorem opsB_append : ∀ (a b : List POp), opsB (a ++ b) = opsB a ++ opsB b
  | [], _ => rfl
  | o :: a, b => by simp [opsB, opsB_append a b]
def takeV (st : RS) : POp × RS :=
  ((⟨(numV 9 st).1, (numV 1024 (numV 9 st).2).1, (numV 1024 (numV 1024 (numV 9 st).2).2).1, (numV 9223372036854775808 (numV 1024 (numV 1024 (numV 9 st).2).2).2).1,
    (numV 1024 (numV 9223372036854775808 (numV 1024 (numV 1024 (numV 9 st).2).2).2).2).1, (numV 1024 (numV 1024 (numV 9223372036854775808 (numV 1024 (numV 1024 (numV 9 st).2).2).2).2).2).1,
    (textV 401 (numV 1024 (numV 1024 (numV 9223372036854775808 (numV 1024 (numV 1024 (numV 9 st).2).2).2).2).2).2).1⟩ : POp),
   (textV 401 (numV 1024 (numV 1024 (numV 9223372036854775808 (numV 1024 (numV 1024 (numV 9 st).2).2).2).2).2).2).2)
theorem takeV_put {o : POp} (h : o.Tame) (r : List UInt8) : takeV (some (opB o ++ r)) = (o, some r) := by
  unfold takeV opB
  have e1 := numV_put h.k (by decide) (vput o.c ++ (vput o.p ++ (vput o.n ++ (vput o.w ++ (vput o.h ++ (vput o.d.length ++ (o.d ++ r)))))))
  have e2 := numV_put h.c (by decide) (vput o.p ++ (vput o.n ++ (vput o.w ++ (vput o.h ++ (vput o.d.length ++ (o.d ++ r))))))
  have e3 := numV_put h.p (by decide) (vput o.n ++ (vput o.w ++ (vput o.h ++ (vput o.d.length ++ (o.d ++ r)))))
  have e4 := numV_put h.n (by decide) (vput o.w ++ (vput o.h ++ (vput o.d.length ++ (o.d ++ r))))
  have e5 := numV_put h.w (by decide) (vput o.h ++ (vput o.d.length ++ (o.d ++ r)))
  have e6 := numV_put h.h (by decide) (vput o.d.length ++ (o.d ++ r))
  have e7 := textV_put h.d (by decide) r
  simp only [List.append_assoc, e1, e2, e3, e4, e5, e6, e7]
theorem takeV_some {st : RS} {o : POp} {ys : List UInt8} (h : takeV st = (o, some ys)) : ∃ xs, st = some xs ∧ o.Tame ∧ xs = opB o ++ ys := by
  unfold takeV at h
  injection h with h1 h2
  generalize e1 : numV 9 st = q1 at h1 h2
  generalize e2 : numV 1024 q1.2 = q2 at h1 h2
  generalize e3 : numV 1024 q2.2 = q3 at h1 h2
  generalize e4 : numV 9223372036854775808 q3.2 = q4 at h1 h2
  generalize e5 : numV 1024 q4.2 = q5 at h1 h2
  generalize e6 : numV 1024 q5.2 = q6 at h1 h2
  generalize e7 : textV 401 q6.2 = q7 at h1 h2
  obtain ⟨n1, s1⟩ := q1; obtain ⟨n2, s2⟩ := q2; obtain ⟨n3, s3⟩ := q3; obtain ⟨n4, s4⟩ := q4; obtain ⟨n5, s5⟩ := q5; obtain ⟨n6, s6⟩ := q6; obtain ⟨d7, s7⟩ := q7
  simp only at h1 h2 e2 e3 e4 e5 e6 e7
  subst h2
  obtain ⟨x6, rfl, l7, z7⟩ := textV_some e7
  obtain ⟨x5, rfl, l6, z6⟩ := numV_some e6
  obtain ⟨x4, rfl, l5, z5⟩ := numV_some e5
  obtain ⟨x3, rfl, l4, z4⟩ := numV_some e4
  obtain ⟨x2, rfl, l3, z3⟩ := numV_some e3
  obtain ⟨x1, rfl, l2, z2⟩ := numV_some e2
  obtain ⟨x0, rfl, l1, z1⟩ := numV_some e1
  subst h1
  refine ⟨x0, rfl, ⟨l1, l2, l3, l4, l5, l6, l7⟩, ?_⟩
  rw [z1, z2, z3, z4, z5, z6, z7]
  simp only [opB, List.append_assoc]
theorem opB_ne (o : POp) : opB o ≠ [] := fun e => vput_ne o.k (List.append_eq_nil_iff.1 e).1
theorem opB_len (o : POp) : 1 ≤ (opB o).length := List.length_pos_iff.2 (opB_ne o)
/-- The ops of bytes, up to what is none. -/
def decV : Nat → List UInt8 → List POp
  | 0, _ => []
  | f + 1, xs => match xs with
    | [] => []
    | x :: xs => match takeV (some (x :: xs)) with
      | (o, some ys) => o :: decV f ys
      | (_, none) => []
theorem decV_nil : ∀ f, decV f [] = []
  | 0 => rfl
  | _ + 1 => rfl
theorem decV_take {f : Nat} {xs ys : List UInt8} {o : POp} (h : takeV (some xs) = (o, some ys)) : decV (f + 1) xs = o :: decV f ys := by
  cases xs with
  | nil =>
    obtain ⟨z, h1, _, h3⟩ := takeV_some h
    injection h1 with h1
    rw [← h1] at h3
    exact absurd (List.append_eq_nil_iff.1 h3.symm).1 (opB_ne o)
  | cons x xs =>
    rw [decV]
    simp only [h]
theorem decV_stop {f : Nat} {xs : List UInt8} (h : (takeV (some xs)).2 = none) : decV (f + 1) xs = [] := by
  cases xs with
  | nil => rfl
  | cons x xs =>
    rw [decV]
    split
    · rename_i o ys e
      rw [e] at h
      cases h
    · rfl
theorem decV_put : ∀ (l : List POp) (f : Nat) (r : List UInt8), (∀ o ∈ l, o.Tame) → decV (f + l.length) (opsB l ++ r) = l ++ decV f r
  | [], f, r, _ => rfl
  | o :: l, f, r, h => by
    rw [opsB, List.append_assoc, show f + (o :: l).length = (f + l.length) + 1 by simp; omega, decV_take (takeV_put (h o List.mem_cons_self) (opsB l ++ r)), decV_put l f r fun q hq => h q (List.mem_cons_of_mem _ hq)]
    rfl
/-- What is left behind the ops that are read begins with none. -/
theorem decV_sound : ∀ (f : Nat) (xs : List UInt8), xs.length < f → (∀ o ∈ decV f xs, o.Tame) ∧ ∃ ys, xs = opsB (decV f xs) ++ ys ∧ (takeV (some ys)).2 = none
  | 0, _, h => by omega
  | f + 1, xs, h => by
    cases ht : takeV (some xs) with
    | mk o st =>
      cases st with
      | none =>
        rw [decV_stop (by rw [ht])]
        exact ⟨by simp, xs, rfl, by rw [ht]⟩
      | some ys =>
        obtain ⟨z, h1, h2, h3⟩ := takeV_some ht
        injection h1 with h1
        subst h1
        have hl := opB_len o
        have hlen : ys.length < f := by rw [h3, List.length_append] at h; omega
        obtain ⟨k1, zs, k2, k3⟩ := decV_sound f ys hlen
        rw [decV_take ht]
        refine ⟨fun q hq => ?_, zs, ?_, k3⟩
        · rcases List.mem_cons.1 hq with rfl | hq
          · exact h2
          · exact k1 q hq
        · rw [opsB, List.append_assoc, ← k2]; exact h3
/-- Cut off, the last ones are none. -/
theorem decV_cut : ∀ (l : List POp) (f k : Nat), (∀ o ∈ l, o.Tame) → k < (opsB l).length → k < f → ∃ j, j < l.length ∧ decV f ((opsB l).take k) = l.take j
  | [], f, k, _, h, _ => by simp [opsB] at h
  | o :: l, f, k, hT, h, hf => by
    have hl := opB_len o
    rw [opsB, List.take_append]
    by_cases hk : k < (opB o).length
    · rw [show k - (opB o).length = 0 by omega, List.take_zero, List.append_nil]
      refine ⟨0, by simp, ?_⟩
      obtain ⟨g, rfl⟩ : ∃ g, f = g + 1 := ⟨f - 1, by omega⟩
      apply decV_stop
      cases ht : takeV (some ((opB o).take k)) with
      | mk o' st =>
        cases st with
        | none => rfl
        | some ys =>
          exfalso
          obtain ⟨z, h1, h2, h3⟩ := takeV_some ht
          injection h1 with h1
          subst h1
          have e1 := takeV_put (hT o List.mem_cons_self) []
          have e2 := takeV_put h2 (ys ++ (opB o).drop k)
          rw [← List.append_assoc, ← h3, List.take_append_drop] at e2
          rw [List.append_nil, e2] at e1
          injection e1 with _ e3
          injection e3 with e3
          have := congrArg List.length e3
          simp at this
          omega
    · obtain ⟨g, rfl⟩ : ∃ g, f = g + 1 := ⟨f - 1, by omega⟩
      rw [opsB, List.length_append] at h
      obtain ⟨j, j1, j2⟩ := decV_cut l g (k - (opB o).length) (fun q hq => hT q (List.mem_cons_of_mem _ hq)) (by omega) (by omega)
      refine ⟨j + 1, by simp; omega, ?_⟩
      rw [List.take_of_length_le (by omega), decV_take (takeV_put (hT o List.mem_cons_self) _), j2]
      rfl
theorem take9 : (takeV (some [9])).2 = none := by
  cases ht : takeV (some [9]) with
  | mk o st =>
    cases st with
    | none => rfl
    | some ys =>
      exfalso
      obtain ⟨z, h1, h2, h3⟩ := takeV_some ht
      injection h1 with h1
      subst h1
      have hk := h2.k
      unfold opB at h3
      rw [vput_lt (by omega)] at h3
      have h4 := congrArg List.head? h3
      simp only [List.head?_cons, List.cons_append, Option.some.injEq] at h4
      have h5 := congrArg UInt8.toNat h4
      rw [ofNat_toNat (by omega)] at h5
      have : (9 : UInt8).toNat = 9 := rfl
      omega
end Go.Abs
