/-
What a call left that nothing leads to is forgotten.
-/
import Derived.Test.YtcfohnfnajfahaaDoorAbs24
namespace Go.Abs
open Go

mutual
/-- All blocks that it leads to are so. -/
def AVal.refs (p : Nat → Prop) : AVal → Prop
  | .ptr (some (b, _)) => p b
  | .slice (some b) _ _ _ => p b
  | .map (some b) => p b
  | .func _ cs => refss p cs
  | .iface _ v => v.refs p
  | .agg cs => refss p cs
  | .tuple cs => refss p cs
  | _ => True
def refss (p : Nat → Prop) : List AVal → Prop
  | [] => True
  | c :: cs => c.refs p ∧ refss p cs
end
mutual
theorem VRel.refs {ρ : Mp} {lm : Lp} : ∀ {x : AVal} {v : Value}, VRel ρ lm x v → x.refs (fun b => ρ b ≠ none)
  | .undef, _, _ => trivial
  | .void, _, _ => trivial
  | .bool _, _, _ => trivial
  | .int _ _, _, _ => trivial
  | .str _, _, _ => trivial
  | .ptr none, _, _ => trivial
  | .ptr (some (_, _)), _, h => by
    obtain ⟨pl, e, _⟩ := by simpa only [VRel] using h
    show _ ≠ _
    rw [e]; simp
  | .lptr _ _, _, _ => trivial
  | .slice none _ _ _, _, _ => trivial
  | .slice (some _) _ _ _, _, h => by
    obtain ⟨pl, a, cap, e, _⟩ := by simpa only [VRel] using h
    show _ ≠ _
    rw [e]; simp
  | .lslice _ _ _, _, _ => trivial
  | .map none, _, _ => trivial
  | .map (some _), _, h => by
    obtain ⟨pl, e, _⟩ := by simpa only [VRel] using h
    show _ ≠ _
    rw [e]; simp
  | .func _ caps, _, h => by
    obtain ⟨vs, e, h⟩ := by simpa only [VRel] using h
    exact VRels.refs h
  | .nilfunc, _, _ => trivial
  | .iface _ x, _, h => by
    obtain ⟨y, e, h⟩ := by simpa only [VRel] using h
    simp only [AVal.refs]
    exact VRel.refs h
  | .niliface, _, _ => trivial
  | .agg cs, _, h => by
    obtain ⟨vs, e, h⟩ := by simpa only [VRel] using h
    exact VRels.refs h
  | .tuple cs, _, h => by
    obtain ⟨vs, e, h⟩ := by simpa only [VRel] using h
    exact VRels.refs h
theorem VRels.refs {ρ : Mp} {lm : Lp} : ∀ {xs : List AVal} {vs : List Value}, VRels ρ lm xs vs → refss (fun b => ρ b ≠ none) xs
  | [], _, _ => trivial
  | c :: cs, _, h => by
    obtain ⟨v, vs', e, h1, h2⟩ := by simpa only [VRels] using h
    exact ⟨VRel.refs h1, VRels.refs h2⟩
end
mutual
theorem AVal.refs_rel {p : Nat → Prop} {ρ ρ' : Mp} {lm : Lp} (hp : ∀ b pl, p b → ρ b = some pl → ρ' b = some pl) : ∀ {x : AVal} {v : Value}, x.refs p → VRel ρ lm x v → VRel ρ' lm x v
  | .undef, _, _, _ => by simp [VRel]
  | .void, _, _, h => by simpa [VRel] using h
  | .bool _, _, _, h => by simpa [VRel] using h
  | .int _ _, _, _, h => by simpa [VRel] using h
  | .str _, _, _, h => by simpa [VRel] using h
  | .ptr none, _, _, h => by simpa [VRel] using h
  | .ptr (some (_, _)), _, hr, h => by
    obtain ⟨pl, e, h⟩ := by simpa only [VRel] using h
    simp only [VRel]
    exact ⟨pl, hp _ _ hr e, h⟩
  | .lptr _ _, _, _, h => by simpa [VRel] using h
  | .slice none _ _ _, _, _, h => by simpa [VRel] using h
  | .slice (some _) _ _ _, _, hr, h => by
    obtain ⟨pl, a, cap, e, h⟩ := by simpa only [VRel] using h
    simp only [VRel]
    exact ⟨pl, a, cap, hp _ _ hr e, h⟩
  | .lslice _ _ _, _, _, h => by simpa [VRel] using h
  | .map none, _, _, h => by simpa [VRel] using h
  | .map (some _), _, hr, h => by
    obtain ⟨pl, e, h⟩ := by simpa only [VRel] using h
    simp only [VRel]
    exact ⟨pl, hp _ _ hr e, h⟩
  | .func _ caps, _, hr, h => by
    obtain ⟨vs, e, h⟩ := by simpa only [VRel] using h
    simp only [VRel]
    exact ⟨vs, e, refss_rel hp hr h⟩
  | .nilfunc, _, _, h => by simpa [VRel] using h
  | .iface _ x, _, hr, h => by
    obtain ⟨y, e, h⟩ := by simpa only [VRel] using h
    simp only [VRel]
    exact ⟨y, e, AVal.refs_rel hp hr h⟩
  | .niliface, _, _, h => by simpa [VRel] using h
  | .agg cs, _, hr, h => by
    obtain ⟨vs, e, h⟩ := by simpa only [VRel] using h
    simp only [VRel]
    exact ⟨vs, e, refss_rel hp hr h⟩
  | .tuple cs, _, hr, h => by
    obtain ⟨vs, e, h⟩ := by simpa only [VRel] using h
    simp only [VRel]
    exact ⟨vs, e, refss_rel hp hr h⟩
theorem refss_rel {p : Nat → Prop} {ρ ρ' : Mp} {lm : Lp} (hp : ∀ b pl, p b → ρ b = some pl → ρ' b = some pl) : ∀ {xs : List AVal} {vs : List Value}, refss p xs → VRels ρ lm xs vs → VRels ρ' lm xs vs
  | [], _, _, h => by simpa [VRels] using h
  | c :: cs, _, hr, h => by
    obtain ⟨v, vs', e, h1, h2⟩ := by simpa only [VRels] using h
    simp only [VRels]
    exact ⟨v, vs', e, AVal.refs_rel hp hr.1 h1, refss_rel hp hr.2 h2⟩
end
theorem refss_get {p : Nat → Prop} : ∀ {xs : List AVal}, refss p xs → ∀ (j : Nat) (x : AVal), xs[j]? = some x → x.refs p
  | [], _, j, x, hx => by simp at hx
  | c :: cs, h, j, x, hx => by
    cases j with
    | zero => simp at hx; subst hx; exact h.1
    | succ j => simp at hx; exact refss_get h.2 j x hx

def Blk.refs (p : Nat → Prop) : Blk → Prop
  | .row _ .dead => True
  | .row cs _ => refss p cs
  | .map es => ∀ (j : Nat) (k v : AVal), es[j]? = some (k, v) → k.refs p ∧ v.refs p

theorem refss_of_get {p : Nat → Prop} : ∀ {xs : List AVal}, (∀ (j : Nat) (x : AVal), xs[j]? = some x → x.refs p) → refss p xs
  | [], _ => trivial
  | c :: cs, h => ⟨h 0 c rfl, refss_of_get fun j x hx => h (j + 1) x (by simpa using hx)⟩

theorem BRel.refs {ρ : Mp} {pl : Pl} {w : World} {x : Blk} (h : BRel ρ pl w x) : x.refs (fun b => ρ b ≠ none) := by
  cases x with
  | row cs m =>
    cases m with
    | dead => trivial
    | ro =>
      obtain ⟨c, ty, fr, h1, h2, h3, h4, h5⟩ := h
      exact refss_of_get fun j x hx => let ⟨v, _, hv⟩ := h4 j x hx; hv.refs
    | rw =>
      obtain ⟨c, ty, fr, h1, h2, h3, h4, h5⟩ := h
      exact refss_of_get fun j x hx => let ⟨v, _, hv⟩ := h4 j x hx; hv.refs
  | map es =>
    obtain ⟨es', cl, h1, h2, h3⟩ := h
    intro j k v hj
    obtain ⟨me, _, hk, hv⟩ := h3 j k v hj
    exact ⟨hk.refs, hv.refs⟩

theorem BRel.shift {p : Nat → Prop} {ρ ρ' : Mp} {pl : Pl} {w : World} {x : Blk} (hp : ∀ b pl, p b → ρ b = some pl → ρ' b = some pl) (hx : x.refs p) (h : BRel ρ pl w x) : BRel ρ' pl w x := by
  cases x with
  | row cs m =>
    cases m with
    | dead => trivial
    | ro =>
      obtain ⟨c, ty, fr, h1, h2, h3, h4, h5⟩ := h
      exact ⟨c, ty, fr, h1, h2, h3, fun j x hj => let ⟨v, e, hv⟩ := h4 j x hj; ⟨v, e, AVal.refs_rel hp (refss_get hx j x hj) hv⟩, h5⟩
    | rw =>
      obtain ⟨c, ty, fr, h1, h2, h3, h4, h5⟩ := h
      exact ⟨c, ty, fr, h1, h2, h3, fun j x hj => let ⟨v, e, hv⟩ := h4 j x hj; ⟨v, e, AVal.refs_rel hp (refss_get hx j x hj) hv⟩, h5⟩
  | map es =>
    obtain ⟨es', cl, h1, h2, h3⟩ := h
    refine ⟨es', cl, h1, h2, fun j k v hj => ?_⟩
    obtain ⟨me, e, hk, hv⟩ := h3 j k v hj
    exact ⟨me, e, AVal.refs_rel hp (hx j k v hj).1 hk, AVal.refs_rel hp (hx j k v hj).2 hv⟩

/-- What a call left is told by other numbers: 'r' tells the old ones; what isn't told is forgotten. -/
theorem call_gc {P : Program} {T : Tab} {f : FuncId} {xs : List AVal} {σ σ1 : Heap} {v1 : AVal} (h : CallOK P T f xs σ v1 σ1) {σ' : Heap} {v : AVal} (r : Nat → Nat)
    (hlen : σ.length ≤ σ'.length) (hold : ∀ b, b < σ.length → r b = b)
    (hinj : ∀ b b', b < σ'.length → b' < σ'.length → r b = r b' → b = b')
    (hblk : ∀ (b : Nat) (x : Blk), σ'[b]? = some x → x.live = true → (σ1[r b]? = some (x.ren r) ∧ x.refs (· < σ'.length)) ∨ (σ[b]? = some x ∧ σ1[b]? = some x))
    (hro : ∀ (b : Nat) (x : Blk), σ[b]? = some x → x.isRO = true → σ'[b]? = some x) (hrob : ∀ (b : Nat) (x : Blk), σ'[b]? = some x → x.isRO = true → σ[b]? = some x)
    (hv : v1 = v.ren r) (hvr : v.refs (· < σ'.length)) : CallOK P T f xs σ v σ' := by
  intro ρ ws w hH hG hw
  refine Calls.mono (h ρ ws w hH hG hw) fun e w' ⟨cv, ρ', he, q1, q2, q3⟩ => ?_
  let ρ2 : Mp := fun b => if b < σ'.length then ρ' (r b) else none
  have hlt : ∀ b pl, ρ b = some pl → b < σ.length := fun b pl hb => let ⟨x, hx, _⟩ := hH.blk b pl hb; (List.getElem?_eq_some_iff.1 hx).1
  have e1 : ∀ b, b < σ.length → ρ2 b = ρ' b := fun b hb => by
    simp only [ρ2]; rw [if_pos (by omega), hold b hb]
  have e2 : ∀ b pl, ρ b = some pl → ρ2 b = some pl := fun b pl hb => by
    rw [e1 b (hlt b pl hb)]; exact q3.ext b pl hb
  have e3 : ∀ b, b < σ'.length → ρ2 b = ρ' (r b) := fun b hb => by simp only [ρ2]; rw [if_pos hb]
  have e4 : ∀ b pl, ρ2 b = some pl → b < σ'.length ∧ ρ' (r b) = some pl := fun b pl hb => by
    simp only [ρ2] at hb
    split at hb
    · exact ⟨by assumption, hb⟩
    · cases hb
  have back : ∀ b pl, b < σ.length → ρ' b = some pl → ρ b = some pl := fun b pl hb h => by
    cases h0 : ρ b with
    | none => have := q3.new b h0 (by rw [h]; simp); omega
    | some pl0 =>
      have := q3.ext b pl0 h0
      rw [h] at this
      exact this.symm
  have old : ∀ b x, σ'[b]? = some x → x.live = true → ∃ y, σ1[r b]? = some y ∧ y.live = true ∧ y.isRW = x.isRW ∧ y.isRO = x.isRO ∧ ∀ pl, ρ2 b = some pl → BRel ρ' pl w' y → BRel ρ2 pl w' x := fun b x hx hl => by
    rcases hblk b x hx hl with ⟨g1, g2⟩ | ⟨g1, g2⟩
    · refine ⟨_, g1, by rw [Blk.ren_live]; exact hl, Blk.ren_isRW .., Blk.ren_isRO .., fun pl _ hB => ?_⟩
      exact (ren_brel.1 hB).shift (fun b pl (hb : b < _) h => by rw [e3 b hb]; exact h) g2
    · have hb := (List.getElem?_eq_some_iff.1 g1).1
      refine ⟨x, by rw [hold b hb]; exact g2, hl, rfl, rfl, fun pl hp hB => ?_⟩
      rw [e1 b hb] at hp
      have hρ := back b pl hb hp
      obtain ⟨x', hx', hB0⟩ := hH.blk b pl hρ
      rw [g1] at hx'
      injection hx' with hx'
      subst hx'
      exact hB.shift (p := fun b => ρ b ≠ none) (fun b pl hb h => by
        cases h0 : ρ b with
        | none => exact absurd h0 hb
        | some pl0 => rw [e1 b (hlt b pl0 h0)]; exact h) hB0.refs
  refine ⟨cv, ρ2, he, ⟨fun b pl hb => ?_, fun b b' pl pl' x x' hb hb' hx hx' hne hl hl' hrw => ?_⟩, ?_, q3.os, q3.tape, q3.output, q3.size, hlen, e2, fun b h0 h1 => ?_, q3.unch, fun b pl x hb hx hrw => ?_, hro, hrob, fun t k h => by cases h⟩
  · obtain ⟨hb1, hb2⟩ := e4 b pl hb
    have hx : σ'[b]? = some σ'[b] := by simp [hb1]
    refine ⟨_, hx, ?_⟩
    cases hl : (σ'[b]).live with
    | false =>
      cases hx1 : σ'[b] with
      | row cs m =>
        rw [hx1] at hl
        cases m with
        | dead => trivial
        | ro => simp [Blk.live] at hl
        | rw => simp [Blk.live] at hl
      | map es => rw [hx1] at hl; simp [Blk.live] at hl
    | true =>
      obtain ⟨y, g1, _, _, _, g5⟩ := old b _ hx hl
      obtain ⟨y', g1', hB⟩ := q1.blk _ _ hb2
      rw [g1] at g1'
      injection g1' with g1'
      subst g1'
      exact g5 pl hb hB
  · obtain ⟨hb1, hb2⟩ := e4 b pl hb
    obtain ⟨hb1', hb2'⟩ := e4 b' pl' hb'
    obtain ⟨y, g1, g2, g3, g4, _⟩ := old b x hx hl
    obtain ⟨y', g1', g2', g3', g4', _⟩ := old b' x' hx' hl'
    exact q1.dis _ _ pl pl' y y' hb2 hb2' g1 g1' (fun h => hne (hinj b b' hb1 hb1' h)) g2 g2' (by rw [g3]; exact hrw)
  · rw [hv] at q2
    exact AVal.refs_rel (p := (· < σ'.length)) (fun b pl (hb : b < _) h => by rw [e3 b hb]; exact h) hvr (ren_rel.1 q2)
  · rcases Nat.lt_or_ge b σ.length with hb | hb
    · rw [e1 b hb] at h1
      exact absurd (q3.new b h0 h1) (by omega)
    · exact hb
  · obtain ⟨hb1, hb2⟩ := e4 b pl hb
    obtain ⟨y, g1, g2, g3, g4, _⟩ := old b x hx (Blk.live_of_isRW hrw)
    exact q3.prov _ pl y hb2 g1 (by rw [g3]; exact hrw)

mutual
theorem AVal.refs_mono {p q : Nat → Prop} (h : ∀ b, p b → q b) : ∀ {x : AVal}, x.refs p → x.refs q
  | .undef, _ | .void, _ | .bool _, _ | .int _ _, _ | .str _, _ | .ptr none, _ | .lptr _ _, _ | .slice none _ _ _, _ | .lslice _ _ _, _ | .map none, _ | .nilfunc, _ | .niliface, _ => trivial
  | .ptr (some (_, _)), hx => h _ hx
  | .slice (some _) _ _ _, hx => h _ hx
  | .map (some _), hx => h _ hx
  | .func _ _, hx => refss_mono h hx
  | .iface _ v, hx => AVal.refs_mono h (x := v) (by simpa only [AVal.refs] using hx)
  | .agg _, hx => refss_mono h hx
  | .tuple _, hx => refss_mono h hx
theorem refss_mono {p q : Nat → Prop} (h : ∀ b, p b → q b) : ∀ {xs : List AVal}, refss p xs → refss q xs
  | [], _ => trivial
  | _ :: _, hx => ⟨AVal.refs_mono h hx.1, refss_mono h hx.2⟩
end
mutual
theorem flat_refs {p : Nat → Prop} : ∀ {x : AVal}, x.flat = true → x.refs p
  | .bool _, _ | .int _ _, _ | .str _, _ | .undef, _ | .void, _ => trivial
  | .agg _, h => flats_refs h
  | .tuple _, h => flats_refs h
theorem flats_refs {p : Nat → Prop} : ∀ {xs : List AVal}, flats xs = true → refss p xs
  | [], _ => trivial
  | _ :: _, h => by
    simp only [flats, Bool.and_eq_true] at h
    exact ⟨flat_refs h.1, flats_refs h.2⟩
end
mutual
theorem flat_ren {r : Nat → Nat} : ∀ {x : AVal}, x.flat = true → x.ren r = x
  | .bool _, _ | .int _ _, _ | .str _, _ | .undef, _ | .void, _ => rfl
  | .agg cs, h => by simp only [AVal.ren, flats_ren (xs := cs) h]
  | .tuple cs, h => by simp only [AVal.ren, flats_ren (xs := cs) h]
theorem flats_ren {r : Nat → Nat} : ∀ {xs : List AVal}, flats xs = true → rens r xs = xs
  | [], _ => rfl
  | x :: xs, h => by
    simp only [flats, Bool.and_eq_true] at h
    simp only [rens, flat_ren h.1, flats_ren h.2]
end
mutual
theorem AVal.ren_id {r : Nat → Nat} (hr : ∀ b, r b = b) : ∀ (x : AVal), x.ren r = x
  | .undef | .void | .bool _ | .int _ _ | .str _ | .ptr none | .lptr _ _ | .slice none _ _ _ | .lslice _ _ _ | .map none | .nilfunc | .niliface => rfl
  | .ptr (some (_, _)) => by simp only [AVal.ren, hr]
  | .slice (some _) _ _ _ => by simp only [AVal.ren, hr]
  | .map (some _) => by simp only [AVal.ren, hr]
  | .func _ cs => by simp only [AVal.ren, rens_id hr cs]
  | .iface _ v => by simp only [AVal.ren, AVal.ren_id hr v]
  | .agg cs => by simp only [AVal.ren, rens_id hr cs]
  | .tuple cs => by simp only [AVal.ren, rens_id hr cs]
theorem rens_id {r : Nat → Nat} (hr : ∀ b, r b = b) : ∀ (xs : List AVal), rens r xs = xs
  | [] => rfl
  | x :: xs => by simp only [rens, AVal.ren_id hr x, rens_id hr xs]
end

/-- What was there is as it was; what is new is forgotten. -/
theorem call_gc0 {P : Program} {T : Tab} {f : FuncId} {xs : List AVal} {σ σ1 : Heap} {v : AVal} (h : CallOK P T f xs σ v σ1) (hk : ∀ b, b < σ.length → σ1[b]? = σ[b]?) (hv : v.refs (· < σ.length)) : CallOK P T f xs σ v σ :=
  call_gc h (fun b => b) (Nat.le_refl _) (fun _ _ => rfl) (fun _ _ _ _ h => h) (fun b x hx _ => .inr ⟨hx, by rw [hk b (List.getElem?_eq_some_iff.1 hx).1]; exact hx⟩)
    (fun _ _ h _ => h) (fun _ _ h _ => h) (AVal.ren_id (fun _ => rfl) v).symm hv

/-- One row is new; all else that is new is forgotten. -/
theorem call_gc1 {P : Program} {T : Tab} {f : FuncId} {xs : List AVal} {σ σ1 : Heap} {v v1 : AVal} {c : Nat} {cs : List AVal} (h : CallOK P T f xs σ v1 σ1) (hk : ∀ b, b < σ.length → σ1[b]? = σ[b]?)
    (hc : σ.length ≤ c) (hrow : σ1[c]? = some (.row cs .rw)) (hf : flats cs = true) (hv : v1 = v.ren (fun b => if b < σ.length then b else c)) (hvr : v.refs (· < σ.length + 1)) : CallOK P T f xs σ v (σ ++ [.row cs .rw]) := by
  refine call_gc h (fun b => if b < σ.length then b else c) (by simp) (fun b hb => by simp [hb]) (fun b b' hb hb' e => ?_) (fun b x hx hl => ?_) (fun b x hx _ => ?_) (fun b x hx hr => ?_) hv (by simpa using hvr)
  · simp only [List.length_append, List.length_singleton] at hb hb'
    by_cases h1 : b < σ.length <;> by_cases h2 : b' < σ.length <;> simp only [h1, h2, if_true, if_false] at e <;> omega
  · rcases Nat.lt_or_ge b σ.length with hb | hb
    · rw [List.getElem?_append_left hb] at hx
      exact .inr ⟨hx, by rw [hk b hb]; exact hx⟩
    · rw [List.getElem?_append_right hb] at hx
      have : b = σ.length := by
        have := (List.getElem?_eq_some_iff.1 hx).1
        simp at this; omega
      subst this
      simp at hx
      subst hx
      refine .inl ⟨?_, flats_refs hf⟩
      simp only [Nat.lt_irrefl, if_false, hrow, Blk.ren, flats_ren hf]
  · rw [List.getElem?_append_left (List.getElem?_eq_some_iff.1 hx).1]; exact hx
  · rcases Nat.lt_or_ge b σ.length with hb | hb
    · rw [List.getElem?_append_left hb] at hx; exact hx
    · rw [List.getElem?_append_right hb] at hx
      have : b - σ.length = 0 := by
        have := (List.getElem?_eq_some_iff.1 hx).1
        simp at this; omega
      rw [this] at hx
      simp at hx
      subst hx
      simp [Blk.isRO] at hr
end Go.Abs
