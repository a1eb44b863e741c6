/-
All operations; calls.
-/
import Derived.Test.YtcfohnfnajfahaaDoorAbs14
namespace Go.Abs
open Go

section
variable {P : Program} {T : Tab} {R : Type} {o : Oper} {e : Env} {l : Locs} {σ : Heap} {k : AVal → Locs → Heap → Option R} {r : R}

theorem opC_sound (ok : TabOK P T) {f : FuncId} {p : Op} (hop : o.op = p) (h : opC T f o.dst o.type p e l σ k = some r) : Snd P T o e l σ k r := by
  cases p
  case next x s => exact snd_next hop h
  all_goals simp only [opC] at h
  all_goals try (cases h; done)
  case move x => exact snd_move hop h
  case assign x => exact snd_assign hop h
  case pick c a b => exact snd_pick hop h
  case alloc t => exact snd_alloc ok hop h
  case box t x => exact snd_box hop h
  case build t ps => exact snd_build ok hop h
  case buildSlice t n ps => exact snd_buildSlice ok hop h
  case load t a => exact snd_load ok hop h
  case store t a x => exact snd_store ok hop h
  case nilCheck x => exact snd_nilCheck hop h
  case binOp op t x y yt => exact snd_binOp ok hop h
  case unOp op t x => exact snd_unOp hop h
  case convert s d x => exact snd_convert ok hop h
  case slice t x lo hi mx => exact snd_slice ok hop h
  case fieldAddr s x fd => exact snd_fieldAddr ok hop h
  case field s x fd => exact snd_field ok hop h
  case indexAddr t x ix => exact snd_indexAddr ok hop h
  case index t x ix => exact snd_index ok hop h
  case extract t ix => exact snd_extract hop h
  case makeSlice t n c => exact snd_makeSlice ok hop h
  case makeFunc fn first caps => exact snd_makeFunc hop h
  case range t x => exact snd_range ok hop h
  case call c =>
    split at h
    · rename_i b hb
      exact snd_builtin ok hop hb h
    · cases h

theorem castV_some {t : TypeId} {v : AVal} {k : AVal → Option R} (h : castV T t v k = some r) : ∃ v', k v' = some r ∧ Refines v v' := by
  unfold castV at h
  obtain ⟨i, hi, h⟩ := Option.bind_eq_some_iff.1 h
  split at h
  · split at h
    · obtain ⟨y, z, hy, hz, hk⟩ := fetch_some h
      injection hy with hy
      subst hy
      exact ⟨z, hk, hz⟩
    · cases h
  · split at h
    · rename_i cs
      split at h
      · rename_i hl
        simp only [decide_eq_true_eq] at hl
        obtain ⟨zs, hk, hzl, hz⟩ := fetches_some h
        refine ⟨_, hk, fun ρ lm u hu => ?_⟩
        simp only [VRel] at hu ⊢
        obtain ⟨vs, rfl, hvs⟩ := hu
        refine ⟨vs, rfl, VRels.of_get ?_ fun j x hx => ?_⟩
        · have := hvs.length; rw [hzl]; simp only [TI.size] at hl; omega
        · obtain ⟨y, hy, hR⟩ := hz j x hx
          rw [Nat.zero_add] at hy
          obtain ⟨v, e1, h1⟩ := hvs.get j y hy
          exact ⟨v, e1, hR ρ lm v h1⟩
      · cases h
    · cases h

theorem castVs_some : ∀ {ts : List TypeId} {vs : List AVal} {k : List AVal → Option R}, castVs T ts vs k = some r →
    ∃ vs', k vs' = some r ∧ ∀ (ρ : Mp) (lm : Lp) (us : List Value), VRels ρ lm vs us → VRels ρ lm vs' us
  | [], [], k, h => ⟨[], h, fun _ _ _ h => h⟩
  | [], _ :: _, k, h => by simp [castVs] at h
  | _ :: _, [], k, h => by simp [castVs] at h
  | t :: ts, v :: vs, k, h => by
    simp only [castVs] at h
    obtain ⟨v', h', hR⟩ := castV_some h
    obtain ⟨vs', hk, hRs⟩ := castVs_some h'
    refine ⟨v' :: vs', hk, fun ρ lm us hu => ?_⟩
    simp only [VRels] at hu ⊢
    obtain ⟨u, us', rfl, h1, h2⟩ := hu
    exact ⟨u, us', rfl, hR ρ lm u h1, hRs ρ lm us' h2⟩

theorem castR_some {t : TypeId} {v : AVal} {k : AVal → Option R} (h : castR T t v k = some r) : ∃ v', k v' = some r ∧ Refines v v' := by
  unfold castR at h
  split at h
  · exact castV_some h
  · split at h
    · obtain ⟨vs', hk, hR⟩ := castVs_some h
      refine ⟨_, hk, fun ρ lm u hu => ?_⟩
      simp only [VRel] at hu ⊢
      obtain ⟨us, rfl, h1⟩ := hu
      exact ⟨us, rfl, hR ρ lm us h1⟩
    · cases h

/-! ### Calls -/
/-- What a call of a function is to be. -/
def CallOK (P : Program) (T : Tab) (g : FuncId) (xs : List AVal) (σ : Heap) (v : AVal) (σ' : Heap) : Prop :=
  ∀ (ρ : Mp) (ws : List Value) (w : World), HRel ρ σ w → GRel T ρ → VRels ρ noL xs ws →
    Calls P g ws.toArray w fun e w' => ∃ cv ρ', e = .returned cv ∧ HRel ρ' σ' w' ∧ VRel ρ' noL v cv ∧ Step ρ noL [] σ w ρ' noL [] σ' w'
def CallFOK (P : Program) (T : Tab) (callF : CallF R) : Prop :=
  ∀ (g : FuncId) (xs : List AVal) (σ : Heap) (K : AVal → Heap → Option R) (r : R), callF g xs σ K = some r →
    (∀ (ws : Array Value) (w : World), (callFunc g ws).run P w = .ok (.enter g ws) w) ∧ ∃ v σ', K v σ' = some r ∧ CallOK P T g xs σ v σ'

/-- The frame's own is as it was, behind a call. -/
theorem LRel.after_call {ρ ρ' : Mp} {lm : Lp} {l : Locs} {σ σ' : Heap} {w w' : World} (hL : LRel ρ lm l σ w) (s : Step ρ noL [] σ w ρ' noL [] σ' w') :
    LRel ρ' lm l σ' w' ∧ Step ρ lm l σ w ρ' lm l σ' w' := by
  have live : ∀ b pl x, ρ b = some pl → σ[b]? = some x → x.isRW = true → x.live = true := fun _ _ _ _ _ h => Blk.live_of_isRW h
  refine ⟨⟨fun t k hk => ?_, hL.inj, fun t k b pl x hk hb hx hl => ?_⟩, ?_⟩
  · obtain ⟨h1, h2⟩ := hL.loc t k hk
    refine ⟨Nat.lt_of_lt_of_le h1 s.size, h2.mono s.ext ?_⟩
    exact s.unch k h1 (fun b pl x hb hx hr => hL.apart t k b pl x hk hb hx (Blk.live_of_isRW hr)) (fun t h => by cases h)
  · obtain ⟨h1, _⟩ := hL.loc t k hk
    rcases Blk.live_cases hl with hr | hr
    · rcases s.prov b pl x hb hx hr with hp | ⟨b0, pl0, x0, g1, g2, g3, g4⟩
      · omega
      · rw [← g4]; exact hL.apart t k b0 pl0 x0 hk g1 g2 (Blk.live_of_isRW g3)
    · have hx0 := s.rob b x hx hr
      cases hb0 : ρ b with
      | none =>
        have := s.new b hb0 (by rw [hb]; simp)
        have := (List.getElem?_eq_some_iff.1 hx0).1
        omega
      | some pl0 =>
        have := s.ext b pl0 hb0
        rw [hb] at this
        injection this with this
        subst this
        exact hL.apart t k b pl x hk hb0 hx0 hl
  · exact ⟨s.os, s.tape, s.output, s.size, s.len, s.ext, s.new, fun k hk h1 _ => s.unch k hk h1 (fun t h => by cases h), s.prov, s.ro, s.rob, fun t k hk hr => .inr ⟨t, hk, hr⟩⟩

theorem stepC_sound (ok : TabOK P T) {f : FuncId} {callF : CallF R} (hc : CallFOK P T callF) (h : stepC T f callF o e l σ k = some r) : Snd P T o e l σ k r := by
  unfold stepC at h
  split at h
  · rename_i x args tys hop
    split at h
    · rename_i g caps hx
      split at h
      · rename_i hn
        obtain ⟨hcf, v, σ', h1, hC⟩ := hc _ _ _ _ _ h
        obtain ⟨v', h2, hR⟩ := castR_some h1
        refine ⟨v', l, σ', h2, ?_⟩
        intro ρ lm A w hH hL hG ho next Q hn'
        have hx' := ho x (by simp [hop, Op.operands, Call.operands])
        rw [hx] at hx'
        simp only [VRel] at hx'
        obtain ⟨cv, hcv, hcaps⟩ := hx'
        have hargs : ∀ ys : List Operand, (∀ y ∈ ys, y ∈ args.toList) → VRels ρ lm (ys.map (ev T e)) (ys.map A.eval) := fun ys => by
          induction ys with
          | nil => intro _; simp [VRels]
          | cons y ys ih =>
            intro hy
            simp only [List.map_cons, VRels]
            refine ⟨_, _, rfl, ho y ?_, ih fun z hz => hy z (List.mem_cons_of_mem _ hz)⟩
            have := hy y List.mem_cons_self
            simp [hop, Op.operands, Call.operands]
            simp at this
            simp [this]
        have hall : VRels ρ noL (args.toList.map (ev T e) ++ caps) (args.toList.map A.eval ++ cv) := ((hargs _ fun _ h => h).append hcaps).noLoc hn
        have run : (execOp A.eval o).run P w = .ok (.enter g (args.toList.map A.eval ++ cv).toArray) w := by
          have e1 : (args.toList.map A.eval ++ cv).toArray = args.map A.eval ++ cv.toArray := by
            apply Array.toList_inj.1; simp
          rw [e1]
          simp [execOp, hop, resolve, Deferred.ofValue, hcv, invoke, hcf]
        unfold Oper.wp
        rw [run, Oper.upon_enter]
        refine Calls.mono (hC ρ _ w hH hG hall) fun ex w'' he => ?_
        obtain ⟨cv', ρ', rfl, q1, q2, q3⟩ := he
        obtain ⟨q4, q5⟩ := hL.after_call q3
        exact hn' cv' w'' ρ' lm q1 q4 (hR ρ' lm cv' (q2.mono (fun _ _ h => h) (fun _ _ h => by cases h))) q5 (LExt.refl ..)
      · cases h
    · cases h
  · exact opC_sound ok rfl h
end
end Go.Abs
