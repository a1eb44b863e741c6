import Derived.Test.YtcfohnfnajfahaaDoorTestD
import Derived.Laws.BitsLemmas
namespace Go.Abs.TA
open Go Go.Abs Go.Proofs
structure St where
  b0 : Bool
  b1 : Bool
  b2 : Bool
  f : Int
  b : Int
def St.av (s : St) : AVal := .agg [.bool s.b0, .bool s.b1, .bool s.b2, .int .i64 s.f, .int .i64 s.b]
def stOf : AVal → Option St
  | .agg [.bool x0, .bool x1, .bool x2, .int .i64 f, .int .i64 b] => some ⟨x0, x1, x2, f, b⟩
  | _ => none
def chg (s : St) (n : Int) : St :=
  bif n == 0 then ⟨false, false, false, 0, 0⟩ else
  bif n == 1 then { s with b0 := true } else bif n == 22 then { s with b0 := false } else
  bif n == 4 then { s with b1 := true } else bif n == 24 then { s with b1 := false } else
  bif n == 7 then { s with b2 := true } else bif n == 27 then { s with b2 := false } else
  bif decide (n ≥ 30) && decide (n ≤ 37) then { s with f := n - 29 } else
  bif n == 39 then { s with f := 0 } else
  bif decide (n ≥ 40) && decide (n ≤ 47) then { s with b := n - 39 } else
  bif n == 49 then { s with b := 0 } else s
theorem wrap_small {n : Int} (h1 : 0 ≤ n) (h2 : n ≤ 100) : IntKind.i64.wrap n = n := by
  rw [IntKind.wrap_i64]; omega
theorem change_ok {R : Type} (m : Nat) (s : St) (n : Int) (σ : Heap) (K : AVal → Heap → Option R) : callC T none0 (m + 1) 54 [s.av, .int .i64 n] σ K = K (chg s n).av σ := by
  obtain ⟨x0, x1, x2, f, b⟩ := s
  refine (change_tree m x0 x1 x2 f b n σ K).trans ?_
  simp only [chg]
  by_cases h0 : n = 0
  · subst h0; rfl
  by_cases h1 : n = 1
  · subst h1; rfl
  by_cases h2 : n = 22
  · subst h2; rfl
  by_cases h3 : n = 4
  · subst h3; rfl
  by_cases h4 : n = 24
  · subst h4; rfl
  by_cases h5 : n = 7
  · subst h5; rfl
  by_cases h6 : n = 27
  · subst h6; rfl
  by_cases h7 : n = 39
  · subst h7; rfl
  by_cases h8 : n = 49
  · subst h8; rfl
  simp only [beq_eq_false_iff_ne.2 h0, beq_eq_false_iff_ne.2 h1, beq_eq_false_iff_ne.2 h2, beq_eq_false_iff_ne.2 h3, beq_eq_false_iff_ne.2 h4, beq_eq_false_iff_ne.2 h5, beq_eq_false_iff_ne.2 h6, beq_eq_false_iff_ne.2 h7, beq_eq_false_iff_ne.2 h8, cond_false]
  by_cases g1 : n ≥ 30
  · by_cases g2 : n ≤ 37
    · simp only [g1, g2, decide_true, cond_true, Bool.and_self, wrap_small (show 0 ≤ n - 29 by omega) (by omega)]
      rfl
    · by_cases g3 : n ≥ 40
      · by_cases g4 : n ≤ 47
        · simp only [g1, g2, g3, g4, decide_true, decide_false, cond_true, cond_false, Bool.and_self, Bool.and_false, wrap_small (show 0 ≤ n - 39 by omega) (by omega)]
          rfl
        · simp only [g1, g2, g3, g4, decide_true, decide_false, cond_true, cond_false, Bool.and_self, Bool.and_false]
          rfl
      · simp only [g1, g2, g3, decide_true, decide_false, cond_true, cond_false, Bool.and_self, Bool.and_false, Bool.false_and]
        rfl
  · have g3 : ¬ n ≥ 40 := by omega
    simp only [g1, g3, decide_false, cond_false, Bool.false_and]
    rfl
def g54 : List AVal → Heap → Option (AVal × Heap)
  | [x, .int .i64 n], σ => (stOf x).bind fun s => some ((chg s n).av, σ)
  | _, _ => none
def known1 : Known := fun f => match Nat.beq 54 f with | true => some g54 | false => none0 f
theorem fn54 : T.fn 54 = some Tryd.f54 := by kernel_rfl
theorem stOf_some {x : AVal} {s : St} (h : stOf x = some s) : x = s.av := by
  unfold stOf at h
  split at h
  · injection h with h; subst h; rfl
  · cases h
theorem known1_ok : KnownOK Tryd.prog T known1 := known_more ok known_none fn54 (by kernel_rfl) fun xs σ v σ' h => by
  refine ⟨50, ?_⟩
  unfold g54 at h
  split at h
  · rename_i x n
    obtain ⟨s, hs, h⟩ := Option.bind_eq_some_iff.1 h
    obtain rfl := stOf_some hs
    rw [← h]
    exact change_ok 49 s n _ _
  · cases h

/-! fit -/
def rowIs : List Int → List AVal → Bool
  | [], [] => true
  | n :: ns, .int .i32 m :: r => decide (n = m) && rowIs ns r
  | _, _ => false
theorem rowIs_eq : ∀ {ns : List Int} {r : List AVal}, rowIs ns r = true → r = ns.map fun n => .int .i32 n
  | [], r, h => by
    unfold rowIs at h
    split at h <;> simp_all
  | n :: ns, r, h => by
    unfold rowIs at h
    split at h
    · rename_i e; cases e
    · rename_i n' ns' m r' e
      injection e with e1 e2
      subst e1; subst e2
      simp only [Bool.and_eq_true, decide_eq_true_eq] at h
      rw [rowIs_eq h.2, h.1]
      rfl
    · cases h
def gFit : List AVal → Heap → Option (AVal × Heap)
  | [], .row cs .ro :: σ => match rowIs wideInts cs with
    | true => some (.bool true, .row cs .ro :: σ)
    | false => none
  | _, _ => none
theorem obs_some {x : Option (AVal × Heap)} {b : Bool} (h : obs x = some b) : ∃ σ, x = some (.bool b, σ) := by
  unfold obs at h
  split at h
  · injection h with h; subst h; exact ⟨_, rfl⟩
  · cases h
theorem globT (g : Nat) (h : T.glob g = true) : g = 0 := by
  have : memN [0] g = true := h
  have := memN_mem this
  simpa using this
theorem fit_ok {σ σ' : Heap} {xs : List AVal} {v : AVal} (h : gFit xs σ = some (v, σ')) : CallOK Tryd.prog T 17 xs σ v σ' := by
  unfold gFit at h
  split at h
  · rename_i cs σ
    split at h
    · rename_i hr
      obtain rfl := rowIs_eq hr
      injection h with h
      injection h with h1 h2
      subst h1; subst h2
      obtain ⟨σ1, e1⟩ := obs_some fit8
      obtain ⟨_, v1, σ2, e2, e3⟩ := callC_sound ok known_none 50 17 [] [.row wideRow .ro] _ _ e1
      injection e2 with e2
      injection e2 with e4 e5
      subst e4; subst e5
      refine call_frame_flat e3 rfl (fun b x hb => ?_) (fun b => b) (fun b x hb => ?_) (fun g hg => ?_)
      · cases b with
        | zero => simp at hb; subst hb; rfl
        | succ b => simp at hb
      · cases b with
        | zero =>
          simp at hb
          subst hb
          exact ⟨_, rfl, by simp [Blk.ren, Blk.frz, wideRow, rens_map, AVal.ren]⟩
        | succ b => simp at hb
      · obtain rfl := globT g hg
        exact ⟨rfl, by simp⟩
    · cases h
  · cases h
theorem fn17 : T.fn 17 = some Tryd.f17 := by kernel_rfl
def known2 : Known := fun f => match Nat.beq 17 f with | true => some gFit | false => known1 f
theorem known2_ok : KnownOK Tryd.prog T known2 := known_ok ok known1_ok fn17 (by kernel_rfl) fun xs σ v σ' h => fit_ok h
end Go.Abs.TA
