/-
Structs of numbers, bools and strings held against each other.
-/
import Derived.Test.YtcfohnfnajfahaaDoorAbs5
import Derived.Laws.StructEq
namespace Go.Abs
open Go

def eqV : List Sh → List Value → List Value → Option Bool
  | [], [], [] => some true
  | .bool :: ss, .bool a :: xs, .bool b :: ys => (eqV ss xs ys).map fun r => (a == b) && r
  | .int k :: ss, .int k1 a :: xs, .int k2 b :: ys => if k1 = k then if k2 = k then (eqV ss xs ys).map fun r => (a == b) && r else none else none
  | .str :: ss, .string a :: xs, .string b :: ys => (eqV ss xs ys).map fun r => (a.toList == b.toList) && r
  | _, _, _ => none

theorem eqCells_eqV {ρ : Mp} {lm : Lp} : ∀ {ss : List Sh} {xs ys : List AVal} {r : Bool} {vx vy : List Value}, eqCells ss xs ys = some r → VRels ρ lm xs vx → VRels ρ lm ys vy → eqV ss vx vy = some r
  | ss, xs, ys, r, vx, vy, h, hx, hy => by
    unfold eqCells at h
    split at h
    · simp only [VRels] at hx hy; subst hx; subst hy; simpa [eqV] using h
    · obtain ⟨v, vs, rfl, h1, h2⟩ := by simpa only [VRels] using hx
      obtain ⟨u, us, rfl, g1, g2⟩ := by simpa only [VRels] using hy
      simp only [VRel] at h1 g1
      subst h1; subst g1
      obtain ⟨r', h', e⟩ := Option.map_eq_some_iff.1 h
      simp [eqV, eqCells_eqV h' h2 g2, e]
    · obtain ⟨v, vs, rfl, h1, h2⟩ := by simpa only [VRels] using hx
      obtain ⟨u, us, rfl, g1, g2⟩ := by simpa only [VRels] using hy
      simp only [VRel] at h1 g1
      subst h1; subst g1
      split at h
      · rename_i e0
        split at h
        · rename_i e1
          obtain ⟨r', h', e⟩ := Option.map_eq_some_iff.1 h
          simp [eqV, e0, e1, eqCells_eqV h' h2 g2, e]
        · cases h
      · cases h
    · obtain ⟨v, vs, rfl, h1, h2⟩ := by simpa only [VRels] using hx
      obtain ⟨u, us, rfl, g1, g2⟩ := by simpa only [VRels] using hy
      simp only [VRel] at h1 g1
      subst h1; subst g1
      obtain ⟨r', h', e⟩ := Option.map_eq_some_iff.1 h
      simp [eqV, eqCells_eqV h' h2 g2, e]
    · cases h

theorem eqV_len : ∀ {ss : List Sh} {a c : List Value} {r : Bool}, eqV ss a c = some r → a.length = ss.length ∧ c.length = ss.length
  | ss, a, c, r, h => by
    unfold eqV at h
    split at h
    · simp
    · obtain ⟨r', h', e⟩ := Option.map_eq_some_iff.1 h
      have := eqV_len h'
      simp; omega
    · split at h
      · split at h
        · obtain ⟨r', h', e⟩ := Option.map_eq_some_iff.1 h
          have := eqV_len h'
          simp; omega
        · cases h
      · cases h
    · obtain ⟨r', h', e⟩ := Option.map_eq_some_iff.1 h
      have := eqV_len h'
      simp; omega
    · cases h

theorem eqV_cut : ∀ (n : Nat) {ss : List Sh} {a c : List Value} {r : Bool}, n ≤ ss.length → eqV ss a c = some r → ∃ r1 r2, eqV (ss.take n) (a.take n) (c.take n) = some r1 ∧ eqV (ss.drop n) (a.drop n) (c.drop n) = some r2 ∧ r = (r1 && r2)
  | 0, ss, a, c, r, _, h => ⟨true, r, by simp [eqV], by simpa using h, by simp⟩
  | n + 1, ss, a, c, r, hn, h => by
    unfold eqV at h
    split at h
    · simp at hn
    · obtain ⟨r', h', e⟩ := Option.map_eq_some_iff.1 h
      obtain ⟨r1, r2, q1, q2, q3⟩ := eqV_cut n (by simpa using hn) h'
      refine ⟨_, r2, by simp only [List.take_succ_cons, eqV, q1, Option.map_some]; rfl, by simpa using q2, ?_⟩
      subst q3; rw [← e, Bool.and_assoc]
    · split at h
      · rename_i e0
        split at h
        · rename_i e1
          obtain ⟨r', h', e⟩ := Option.map_eq_some_iff.1 h
          obtain ⟨r1, r2, q1, q2, q3⟩ := eqV_cut n (by simpa using hn) h'
          refine ⟨_, r2, by simp only [List.take_succ_cons, eqV, q1, Option.map_some, e0, e1, if_true]; rfl, by simpa using q2, ?_⟩
          subst q3; rw [← e, Bool.and_assoc]
        · cases h
      · cases h
    · obtain ⟨r', h', e⟩ := Option.map_eq_some_iff.1 h
      obtain ⟨r1, r2, q1, q2, q3⟩ := eqV_cut n (by simpa using hn) h'
      refine ⟨_, r2, by simp only [List.take_succ_cons, eqV, q1, Option.map_some]; rfl, by simpa using q2, ?_⟩
      subst q3; rw [← e, Bool.and_assoc]
    · cases h

/-- A value of a type out of its cells. -/
def valOf (P : Program) (t : TypeId) (cs : List Value) : Value :=
  match P.underlying t with
  | some (.struct _) => .agg cs.toArray
  | _ => cs.headD Go.undef

theorem run_part_eq {P : Program} {n : Nat} {t : TypeId} {i : TypeInfo} {ss : List Sh} (h : eqOk P n t ss = true) (hi : P.info? t = some i) (w : World) (xs : List Value) (o : Nat) (hl : o + i.size ≤ xs.length) :
    (part t xs.toArray o).run P w = .ok (valOf P t ((xs.drop o).take i.size)) w := by
  have one : i.size = 1 → xs[o]? = some (((xs.drop o).take i.size).headD Go.undef) := fun e => by
    rw [e]
    have ho : o < xs.length := by omega
    rw [List.drop_eq_getElem_cons ho, List.take_succ_cons, List.headD_cons]
    simp [ho]
  cases n with
  | zero => simp [eqOk] at h
  | succ n =>
    unfold eqOk at h
    split at h
    · rename_i k i' k' hu hi'
      rw [hi] at hi'; injection hi' with hi'; subst hi'
      simp only [Bool.and_eq_true, decide_eq_true_eq] at h
      have := one h.1
      simp [part, isAgg, run_underlying hu, valOf, hu, this]
    · rename_i i' hu hi'
      rw [hi] at hi'; injection hi' with hi'; subst hi'
      have := one (of_decide_eq_true h)
      simp [part, isAgg, run_underlying hu, valOf, hu, this]
    · rename_i i' hu hi'
      rw [hi] at hi'; injection hi' with hi'; subst hi'
      have := one (of_decide_eq_true h)
      simp [part, isAgg, run_underlying hu, valOf, hu, this]
    · rename_i fs i' ss' hu hi'
      rw [hi] at hi'; injection hi' with hi'; subst hi'
      simp only [part, isAgg, Sem.run_bind, run_underlying hu, Result.andThen_ok, Sem.run_pure, if_true, sizeOf, typeInfo, run_program, hi, valOf, hu]
      congr 2
      apply Array.ext'
      simp only [Array.toList_extract, List.extract_eq_take_drop]
      congr 1
      omega
    · cases h

theorem eq_run {P : Program} (w : World) : ∀ (n : Nat),
    (∀ (t : TypeId) (ss : List Sh), eqOk P n t ss = true → ∀ (D : Nat), n ≤ D → ∀ (vx vy : List Value) (r : Bool), eqV ss vx vy = some r →
      (Op.equalIn D t (valOf P t vx) (valOf P t vy)).run P w = .ok r w) ∧
    (∀ (fs : List Field) (o : Nat) (ss : List Sh), eqFs P n fs o ss = true → ∀ (D : Nat), n ≤ D → ∀ (vx vy : List Value) (r : Bool), eqV ss (vx.drop o) (vy.drop o) = some r →
      (Op.eqFields D vx.toArray vy.toArray fs).run P w = .ok r w)
  | 0 => by
    refine ⟨fun t i h => by simp [eqOk] at h, fun fs o ss h D _ vx vy r hr => ?_⟩
    cases fs with
    | nil =>
      simp only [eqFs, List.isEmpty_iff] at h
      subst h
      unfold eqV at hr
      split at hr <;> simp_all [Op.eqFields]
    | cons f fs => simp [eqFs] at h
  | n + 1 => by
    obtain ⟨ih1, ih2⟩ := eq_run w n
    constructor
    · intro t ss h D hD vx vy r hr
      obtain ⟨D, rfl⟩ : ∃ D', D = D' + 1 := ⟨D - 1, by omega⟩
      unfold eqOk at h
      split at h
      · rename_i k i' k' hu hi'
        simp only [Bool.and_eq_true, decide_eq_true_eq] at h
        simp only [valOf, hu]
        unfold eqV at hr
        split at hr <;> rename_i h1 <;> try (first | (cases h1; done) | (cases hr; done))
        injection h1 with h1 h2
        injection h1 with h1
        subst h1; subst h2
        split at hr <;> try (cases hr; done)
        split at hr <;> try (cases hr; done)
        rename_i xs ys e1 e2
        subst e1; subst e2
        obtain ⟨r', h', e⟩ := Option.map_eq_some_iff.1 hr
        have : r' = true := by
          unfold eqV at h'
          split at h' <;> simp_all
        subst this; subst e
        simp [run_equalIn_int w D t _ _ _ _ hu]
      · rename_i i' hu hi'
        simp only [valOf, hu]
        unfold eqV at hr
        split at hr <;> rename_i h1 <;> try (first | (cases h1; done) | (cases hr; done))
        injection h1 with h1 h2
        subst h2
        obtain ⟨r', h', e⟩ := Option.map_eq_some_iff.1 hr
        have : r' = true := by
          unfold eqV at h'
          split at h' <;> simp_all
        subst this; subst e
        simp [run_equalIn_bool' w D t _ _ hu]
      · rename_i i' hu hi'
        simp only [valOf, hu]
        unfold eqV at hr
        split at hr <;> rename_i h1 <;> try (first | (cases h1; done) | (cases hr; done))
        injection h1 with h1 h2
        subst h2
        obtain ⟨r', h', e⟩ := Option.map_eq_some_iff.1 hr
        have : r' = true := by
          unfold eqV at h'
          split at h' <;> simp_all
        subst this; subst e
        simp [run_equalIn_string w D t _ _ hu]
      · rename_i _ fs i' hu hi'
        simp only [Bool.and_eq_true, Bool.not_eq_true'] at h
        have hf : P.fieldsOf t = fs := by simp [Program.fieldsOf, hu]
        have hu' : P.underlying t = some (.struct (P.fieldsOf t)) := by rw [hf]; exact hu
        simp only [valOf, hu]
        rw [run_equalIn_struct w D t _ _ hu' h.1.1, hf]
        exact ih2 fs.toList 0 _ h.2 D (by omega) vx vy r (by simpa using hr)
      · cases h
    · intro fs o ss h D hD vx vy r hr
      cases fs with
      | nil =>
        simp only [eqFs, List.isEmpty_iff] at h
        subst h
        unfold eqV at hr
        split at hr <;> simp_all [Op.eqFields]
      | cons f fs =>
        simp only [eqFs, Bool.and_eq_true, bne_iff_ne, ne_eq, decide_eq_true_eq] at h
        obtain ⟨⟨h1, h2⟩, h4⟩ := h
        split at h4
        · rename_i i hi
          simp only [Bool.and_eq_true, decide_eq_true_eq] at h4
          obtain ⟨⟨⟨h5, h0⟩, h6⟩, h7⟩ := h4
          obtain ⟨l1, l2⟩ := eqV_len hr
          rw [List.length_drop] at l1 l2
          obtain ⟨r1, r2, q1, q2, q3⟩ := eqV_cut i.size h5 hr
          have p1 := run_part_eq h6 hi w vx o (by omega)
          have p2 := run_part_eq h6 hi w vy o (by omega)
          have p3 := ih1 f.type (ss.take i.size) h6 D (by omega) _ _ r1 q1
          have p4 := ih2 fs (o + i.size) (ss.drop i.size) h7 D (by omega) vx vy r2 (by simpa [List.drop_drop, Nat.add_comm] using q2)
          rw [← h2] at p1 p2
          simp only [Op.eqFields]
          rw [if_pos h1]
          simp only [Sem.run_bind, p1, p2, Result.andThen_ok]
          rw [h2, p3]
          simp only [Result.andThen_ok]
          subst q3
          cases r1
          · rfl
          · simpa using p4
        · cases h4

end Go.Abs
