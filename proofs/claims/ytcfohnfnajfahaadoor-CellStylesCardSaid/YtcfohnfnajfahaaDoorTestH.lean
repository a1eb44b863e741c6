import Derived.Test.YtcfohnfnajfahaaDoorTestF
namespace Go.Abs.TA
open Go Go.Abs Go.Proofs
def okS (s : St) : Bool := decide (0 ≤ s.f) && decide (s.f ≤ 8) && decide (0 ≤ s.b) && decide (s.b ≤ 8)
theorem style19_tree {R : Type} (m : Nat) (s : St) (σ : Heap) (K : AVal → Heap → Option R) : callC T known2 (m + 1) 19 [s.av] σ K =
    bif decide (s.f ≥ 0) then (bif decide (s.f ≤ 8) then (bif decide (s.b ≥ 0) then K (.bool (decide (s.b ≤ 8))) σ else K (.bool false) σ) else K (.bool false) σ) else K (.bool false) σ := by kernel_rfl
theorem style20_tree {R : Type} (m : Nat) (s : St) (σ : Heap) (K : AVal → Heap → Option R) : callC T known2 (m + 1) 20 [s.av] σ K =
    bif decide (s.f ≥ 0) then (bif decide (s.f ≤ 8) then (bif decide (s.b ≥ 0) then K (.bool (decide (s.b ≤ 8))) σ else K (.bool false) σ) else K (.bool false) σ) else K (.bool false) σ := by kernel_rfl
theorem okS_tree {R : Type} (s : St) (σ : Heap) (K : AVal → Heap → Option R) : (bif decide (s.f ≥ 0) then (bif decide (s.f ≤ 8) then (bif decide (s.b ≥ 0) then K (.bool (decide (s.b ≤ 8))) σ else K (.bool false) σ) else K (.bool false) σ) else K (.bool false) σ) = K (.bool (okS s)) σ := by
  unfold okS
  by_cases h1 : s.f ≥ 0 <;> by_cases h2 : s.f ≤ 8 <;> by_cases h3 : s.b ≥ 0 <;> simp [h1, h2, h3]
  all_goals (try simp [show (0 : Int) ≤ s.f by omega])
  all_goals (try simp [show (0 : Int) ≤ s.b by omega])
  all_goals (try simp [show ¬ (0 : Int) ≤ s.f by omega])
  all_goals (try simp [show ¬ (0 : Int) ≤ s.b by omega])
def g19 : List AVal → Heap → Option (AVal × Heap)
  | [x], σ => (stOf x).bind fun s => some (.bool (okS s), σ)
  | _, _ => none
def known3 : Known := fun f => match Nat.beq 19 f with | true => some g19 | false => known2 f
theorem fn19 : T.fn 19 = some Tryd.f19 := by kernel_rfl
theorem fn20 : T.fn 20 = some Tryd.f20 := by kernel_rfl
theorem fn21 : T.fn 21 = some Tryd.f21 := by kernel_rfl
theorem known3_ok : KnownOK Tryd.prog T known3 := known_more ok known2_ok fn19 (by kernel_rfl) fun xs σ v σ' h => by
  refine ⟨50, ?_⟩
  unfold g19 at h
  split at h
  · rename_i x
    obtain ⟨s, hs, h⟩ := Option.bind_eq_some_iff.1 h
    obtain rfl := stOf_some hs
    rw [← h]
    exact (style19_tree 49 s _ _).trans (okS_tree s _ (fun v σ => some (v, σ)))
  · cases h
def known4 : Known := fun f => match Nat.beq 20 f with | true => some g19 | false => known3 f
theorem style20_tree' {R : Type} (m : Nat) (s : St) (σ : Heap) (K : AVal → Heap → Option R) : callC T known3 (m + 1) 20 [s.av] σ K =
    bif decide (s.f ≥ 0) then (bif decide (s.f ≤ 8) then (bif decide (s.b ≥ 0) then K (.bool (decide (s.b ≤ 8))) σ else K (.bool false) σ) else K (.bool false) σ) else K (.bool false) σ := by kernel_rfl
theorem known4_ok : KnownOK Tryd.prog T known4 := known_more ok known3_ok fn20 (by kernel_rfl) fun xs σ v σ' h => by
  refine ⟨50, ?_⟩
  unfold g19 at h
  split at h
  · rename_i x
    obtain ⟨s, hs, h⟩ := Option.bind_eq_some_iff.1 h
    obtain rfl := stOf_some hs
    rw [← h]
    exact (style20_tree' 49 s _ _).trans (okS_tree s _ (fun v σ => some (v, σ)))
  · cases h
theorem refchg_tree {R : Type} (m : Nat) (x0 x1 x2 : Bool) (f b n : Int) (σ : Heap) (K : AVal → Heap → Option R) :
  callC T known4 (m + 1) 21 [sty x0 x1 x2 f b, .int .i64 n] σ K =
   (let tail := fun (x0 x1 x2 : Bool) (f b : Int) =>
      let t2 := fun (f : Int) => bif decide (n ≥ 40) then (bif decide (n ≤ 47) then K (sty x0 x1 x2 f (IntKind.i64.wrap (n - 39))) σ else K (sty x0 x1 x2 f b) σ) else K (sty x0 x1 x2 f b) σ
      bif decide (n ≥ 30) then (bif decide (n ≤ 37) then t2 (IntKind.i64.wrap (n - 29)) else t2 f) else t2 f
    bif n == 0 then K (sty false false false 0 0) σ else
    bif n == 1 then tail true x1 x2 f b else bif n == 22 then tail false x1 x2 f b else
    bif n == 4 then tail x0 true x2 f b else bif n == 24 then tail x0 false x2 f b else
    bif n == 7 then tail x0 x1 true f b else bif n == 27 then tail x0 x1 false f b else
    bif n == 39 then tail x0 x1 x2 0 b else bif n == 49 then tail x0 x1 x2 f 0 else tail x0 x1 x2 f b) := by kernel_rfl
theorem refchg_ok {R : Type} (m : Nat) (s : St) (n : Int) (σ : Heap) (K : AVal → Heap → Option R) : callC T known4 (m + 1) 21 [s.av, .int .i64 n] σ K = K (chg s n).av σ := by
  obtain ⟨x0, x1, x2, f, b⟩ := s
  refine (refchg_tree m x0 x1 x2 f b n σ K).trans ?_
  simp only [chg]
  by_cases h0 : n = 0
  · subst h0; rfl
  by_cases h1 : n = 1
  · subst h1; rfl
  by_cases h2 : n = 22
  · subst h2; rfl
  by_cases h3 : n = 4
  · subst h3; rfl
  by_cases h4 : n = 24
  · subst h4; rfl
  by_cases h5 : n = 7
  · subst h5; rfl
  by_cases h6 : n = 27
  · subst h6; rfl
  by_cases h7 : n = 39
  · subst h7; rfl
  by_cases h8 : n = 49
  · subst h8; rfl
  simp only [beq_eq_false_iff_ne.2 h0, beq_eq_false_iff_ne.2 h1, beq_eq_false_iff_ne.2 h2, beq_eq_false_iff_ne.2 h3, beq_eq_false_iff_ne.2 h4, beq_eq_false_iff_ne.2 h5, beq_eq_false_iff_ne.2 h6, beq_eq_false_iff_ne.2 h7, beq_eq_false_iff_ne.2 h8, cond_false]
  by_cases g1 : n ≥ 30
  · by_cases g2 : n ≤ 37
    · have g3 : ¬ n ≥ 40 := by omega
      simp only [g1, g2, g3, decide_true, decide_false, cond_true, cond_false, Bool.and_self, wrap_small (show 0 ≤ n - 29 by omega) (by omega)]
      rfl
    · by_cases g3 : n ≥ 40
      · by_cases g4 : n ≤ 47
        · simp only [g1, g2, g3, g4, decide_true, decide_false, cond_true, cond_false, Bool.and_self, Bool.and_false, wrap_small (show 0 ≤ n - 39 by omega) (by omega)]
          rfl
        · simp only [g1, g2, g3, g4, decide_true, decide_false, cond_true, cond_false, Bool.and_false]
          rfl
      · simp only [g1, g2, g3, decide_true, decide_false, cond_true, cond_false, Bool.and_false, Bool.false_and]
        rfl
  · have g3 : ¬ n ≥ 40 := by omega
    simp only [g1, g3, decide_false, cond_false, Bool.false_and]
    rfl
def known5 : Known := fun f => match Nat.beq 21 f with | true => some g54 | false => known4 f
theorem known5_ok : KnownOK Tryd.prog T known5 := known_more ok known4_ok fn21 (by kernel_rfl) fun xs σ v σ' h => by
  refine ⟨50, ?_⟩
  unfold g54 at h
  split at h
  · rename_i x n
    obtain ⟨s, hs, h⟩ := Option.bind_eq_some_iff.1 h
    obtain rfl := stOf_some hs
    rw [← h]
    exact refchg_ok 49 s n _ _
  · cases h
end Go.Abs.TA
