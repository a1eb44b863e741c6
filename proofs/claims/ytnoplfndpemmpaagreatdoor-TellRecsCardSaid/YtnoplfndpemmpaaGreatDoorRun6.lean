/-
A closed run: what it stands on (Run6).
-/
import Derived.Test.YtnoplfndpemmpaaGreatDoorMConI
import Derived.Test.YtnoplfndpemmpaaGreatDoorMConY
namespace Go.Abs.TE
open Go Go.Abs Go.Proofs
/-- The store, of no or one file, that lies there. -/
def oneFile (σ : Heap) (m : Mode) : List (AVal × AVal) → Option (List FD)
  | [] => some []
  | [(.str name, .ptr (some (p, 0)))] => match σ[p]? with
    | some (.row [.slice b 0 n 1, .int .i64 (.ofNat sure)] m') => match decide (m' = m) && decide (sure ≤ n) && decide (0 < name.size) && decide (name.size ≤ 12) && decide (n ≤ 100000) with
      | true => match b with
        | none => match decide (n = 0) with
          | true => some [⟨name, p, ⟨none, 0, n⟩, [], sure⟩]
          | false => none
        | some b => match σ[b]? with
          | some (.row cs m'') => match decide (m'' = m) && decide (n ≤ cs.length) && decide (b ≠ p) with
            | true => match deU8 (cs.take n) with
              | some ys => some [⟨name, p, ⟨some b, 0, n⟩, ys, sure⟩]
              | none => none
            | false => none
          | _ => none
      | false => none
    | _ => none
  | _ => none
theorem oneFile_is {σ : Heap} {m : Mode} {es : List (AVal × AVal)} {fs : List FD} (h : oneFile σ m es = some fs) :
    es = fs.map ent ∧ (fs = [] ∨ ∃ f, fs = [f] ∧ FileIn σ m f ∧ f.blocks.Nodup ∧ f.name.size ≠ 0 ∧ f.name.size ≤ 12 ∧ f.data.length ≤ 100000) := by
  unfold oneFile at h
  split at h
  · injection h with h
    subst h
    exact ⟨rfl, .inl rfl⟩
  · rename_i name p
    split at h
    · rename_i b n sure m' hp
      split at h
      · rename_i e
        simp only [Bool.and_eq_true, decide_eq_true_eq] at e
        obtain ⟨⟨⟨⟨e1, e2⟩, e3⟩, e4⟩, e5⟩ := e
        subst e1
        split at h
        · split at h
          · rename_i hn
            rw [decide_eq_true_eq] at hn
            subst hn
            injection h with h
            subst h
            refine ⟨rfl, .inr ⟨_, rfl, ⟨hp, rfl, rfl, by simpa using e2, .inl ⟨rfl, rfl⟩⟩, by simp [FD.blocks], by show name.size ≠ 0; omega, e4, by simp⟩⟩
          · cases h
        · rename_i b
          split at h
          · rename_i cs m'' hb
            split at h
            · rename_i e6
              simp only [Bool.and_eq_true, decide_eq_true_eq] at e6
              obtain ⟨⟨e7, e8⟩, e9⟩ := e6
              subst e7
              split at h
              · rename_i ys hy
                injection h with h
                subst h
                have hall := deU8_all hy
                have hlen : n = ys.length := by
                  have := congrArg List.length hall
                  rw [El.all_len, List.length_take] at this
                  have h1 : eU8.z = 1 := rfl
                  rw [h1] at this
                  omega
                refine ⟨rfl, .inr ⟨_, rfl, ⟨hp, rfl, hlen, by simp only; omega, .inr ⟨b, cs, rfl, hb, by rw [← hlen]; exact hall⟩⟩, ?_, by show name.size ≠ 0; omega, e4, by simp only; omega⟩⟩
                simp [FD.blocks]
                exact fun e => e9 e.symm
              · cases h
            · cases h
          · cases h
      · cases h
    · cases h
  · cases h
def cUsed (s : Pt) (σ : Heap) : Option (Int × Heap) := match s with
  | some (s, 0) => match σ[s]? with
    | some (.row [.map (some bm), .int .i64 (.ofNat q), .bool _, .int .i64 _, .bool _] m) => match σ[bm]? with
      | some (.map es m') => match decide (m' = m) && decide (m ≠ .dead) && decide (s ≠ bm) && decide (q ≤ 9223372036854775807) with
        | true => match oneFile σ m es with
          | some fs => match (fs.all fun f => f.blocks.all fun b => decide (b ≠ s) && decide (b ≠ bm)) && decide (usedF fs ≤ q) with
            | true => some ((usedF fs : Int), σ)
            | false => none
          | none => none
        | false => none
      | _ => none
    | _ => none
  | _ => none
theorem ok_cUsed : Ok_file_Store_Used cUsed := fun s σ v σ' h => by
  refine ok_file_Store_Used s σ v σ' ?_
  unfold cUsed at h
  split at h
  · rename_i s0
    split at h
    · rename_i bm q ar left dn m hs
      split at h
      · rename_i es m' hm
        split at h
        · rename_i e
          simp only [Bool.and_eq_true, decide_eq_true_eq] at e
          obtain ⟨⟨⟨e1, e2⟩, e3⟩, e4⟩ := e
          subst e1
          split at h
          · rename_i fs hf
            split at h
            · rename_i e5
              simp only [Bool.and_eq_true, decide_eq_true_eq, List.all_eq_true] at e5
              obtain ⟨e6, e7⟩ := e5
              injection h with h
              rw [← h]
              obtain ⟨k1, k2⟩ := oneFile_is hf
              have hrd : Mode.rd m' := by
                cases m' with
                | dead => exact absurd rfl e2
                | ro => trivial
                | rw => trivial
              have one : ∀ f ∈ fs, FileIn σ m' f ∧ f.blocks.Nodup ∧ f.name.size ≠ 0 ∧ f.name.size ≤ 12 := fun f hf => by
                rcases k2 with rfl | ⟨g, rfl, g1, g2, g3, g4, _⟩
                · cases hf
                · rw [List.mem_singleton] at hf
                  subst hf
                  exact ⟨g1, g2, g3, g4⟩
              have st : St σ m' ⟨s0, bm, fs, q, ar, left, dn⟩ := by
                refine ⟨hs, by rw [hm, k1], fun f hf => (one f hf).1, ⟨e3, fun f hf => ⟨fun hb => (e6 f hf s0 hb).1 rfl, fun hb => (e6 f hf bm hb).2 rfl⟩, fun f hf => (one f hf).2.1, ?_⟩, ?_, e7, ?_, e4, fun f hf => (one f hf).2.2⟩
                · rcases k2 with rfl | ⟨g, rfl, _⟩
                  · exact .nil
                  · exact List.pairwise_singleton _ _
                · rcases k2 with rfl | ⟨g, rfl, _⟩
                  · exact .nil
                  · simp
                · rcases k2 with rfl | ⟨g, rfl, _, _, _, _, g5⟩
                  · simp [usedF]
                  · simp [usedF]; omega
              exact w_file_Store_Used_eq (d := ⟨s0, bm, fs, q, ar, left, dn⟩) hrd st
            · cases h
          · cases h
        · cases h
      · cases h
    · cases h
  · cases h
end Go.Abs.TE
