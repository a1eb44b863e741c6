/-
A call that leaves what was there as it was can be told in a small memory.
-/
import Derived.Test.YtcfohnfnajfahaaDoorAbs23
namespace Go.Abs
open Go

mutual
/-- Blocks by other numbers. -/
def AVal.ren (r : Nat → Nat) : AVal → AVal
  | .ptr (some (b, o)) => .ptr (some (r b, o))
  | .slice (some b) o n z => .slice (some (r b)) o n z
  | .map (some b) => .map (some (r b))
  | .func fn caps => .func fn (rens r caps)
  | .iface t v => .iface t (v.ren r)
  | .agg cs => .agg (rens r cs)
  | .tuple cs => .tuple (rens r cs)
  | x => x
def rens (r : Nat → Nat) : List AVal → List AVal
  | [] => []
  | c :: cs => c.ren r :: rens r cs
end
theorem rens_map (r : Nat → Nat) : ∀ (cs : List AVal), rens r cs = cs.map (AVal.ren r)
  | [] => rfl
  | c :: cs => by simp [rens, rens_map r cs]

mutual
theorem ren_rel {ρ : Mp} {lm : Lp} {r : Nat → Nat} : ∀ {x : AVal} {v : Value}, VRel ρ lm (x.ren r) v ↔ VRel (fun b => ρ (r b)) lm x v
  | .undef, _ => by simp [AVal.ren, VRel]
  | .void, _ => by simp [AVal.ren, VRel]
  | .bool _, _ => by simp [AVal.ren, VRel]
  | .int _ _, _ => by simp [AVal.ren, VRel]
  | .str _, _ => by simp [AVal.ren, VRel]
  | .ptr none, _ => by simp [AVal.ren, VRel]
  | .ptr (some (_, _)), _ => by simp [AVal.ren, VRel]
  | .lptr _ _, _ => by simp [AVal.ren, VRel]
  | .slice none _ _ _, _ => by simp [AVal.ren, VRel]
  | .slice (some _) _ _ _, _ => by simp [AVal.ren, VRel]
  | .lslice _ _ _, _ => by simp [AVal.ren, VRel]
  | .map none, _ => by simp [AVal.ren, VRel]
  | .map (some _), _ => by simp [AVal.ren, VRel]
  | .func _ caps, _ => by
    simp only [AVal.ren, VRel]
    exact ⟨fun ⟨vs, h1, h2⟩ => ⟨vs, h1, rens_rel.1 h2⟩, fun ⟨vs, h1, h2⟩ => ⟨vs, h1, rens_rel.2 h2⟩⟩
  | .nilfunc, _ => by simp [AVal.ren, VRel]
  | .iface _ x, _ => by
    simp only [AVal.ren, VRel]
    exact ⟨fun ⟨vs, h1, h2⟩ => ⟨vs, h1, ren_rel.1 h2⟩, fun ⟨vs, h1, h2⟩ => ⟨vs, h1, ren_rel.2 h2⟩⟩
  | .niliface, _ => by simp [AVal.ren, VRel]
  | .agg cs, _ => by
    simp only [AVal.ren, VRel]
    exact ⟨fun ⟨vs, h1, h2⟩ => ⟨vs, h1, rens_rel.1 h2⟩, fun ⟨vs, h1, h2⟩ => ⟨vs, h1, rens_rel.2 h2⟩⟩
  | .tuple cs, _ => by
    simp only [AVal.ren, VRel]
    exact ⟨fun ⟨vs, h1, h2⟩ => ⟨vs, h1, rens_rel.1 h2⟩, fun ⟨vs, h1, h2⟩ => ⟨vs, h1, rens_rel.2 h2⟩⟩
theorem rens_rel {ρ : Mp} {lm : Lp} {r : Nat → Nat} : ∀ {xs : List AVal} {vs : List Value}, VRels ρ lm (rens r xs) vs ↔ VRels (fun b => ρ (r b)) lm xs vs
  | [], _ => by simp [rens, VRels]
  | x :: xs, vs => by
    simp only [rens, VRels]
    constructor
    · rintro ⟨v, vs', h1, h2, h3⟩
      exact ⟨v, vs', h1, ren_rel.1 h2, rens_rel.1 h3⟩
    · rintro ⟨v, vs', h1, h2, h3⟩
      exact ⟨v, vs', h1, ren_rel.2 h2, rens_rel.2 h3⟩
end

def Blk.ren (r : Nat → Nat) : Blk → Blk
  | .row cs m => .row (rens r cs) m
  | .map es => .map (es.map fun p => (p.1.ren r, p.2.ren r))
theorem Blk.ren_isRW (r : Nat → Nat) (x : Blk) : (x.ren r).isRW = x.isRW := by
  cases x with
  | row cs m => cases m <;> rfl
  | map es => rfl
theorem Blk.ren_isRO (r : Nat → Nat) (x : Blk) : (x.ren r).isRO = x.isRO := by
  cases x with
  | row cs m => cases m <;> rfl
  | map es => rfl
theorem Blk.ren_live (r : Nat → Nat) (x : Blk) : (x.ren r).live = x.live := by
  cases x with
  | row cs m => cases m <;> rfl
  | map es => rfl
theorem ren_brel {ρ : Mp} {r : Nat → Nat} {pl : Pl} {w : World} {x : Blk} : BRel ρ pl w (x.ren r) ↔ BRel (fun b => ρ (r b)) pl w x := by
  have hrow : ∀ (cs : List AVal) (c : Array Value), (∀ (j : Nat) x, (rens r cs)[j]? = some x → ∃ v, c[pl.off + j]? = some v ∧ VRel ρ noL x v) ↔ (∀ (j : Nat) x, cs[j]? = some x → ∃ v, c[pl.off + j]? = some v ∧ VRel (fun b => ρ (r b)) noL x v) := fun cs c => by
    rw [rens_map]
    constructor
    · intro h j x hx
      obtain ⟨v, h1, h2⟩ := h j (x.ren r) (by rw [List.getElem?_map, hx]; rfl)
      exact ⟨v, h1, ren_rel.1 h2⟩
    · intro h j x hx
      rw [List.getElem?_map] at hx
      obtain ⟨y, hy, rfl⟩ := Option.map_eq_some_iff.1 hx
      obtain ⟨v, h1, h2⟩ := h j y hy
      exact ⟨v, h1, ren_rel.2 h2⟩
  have hlen : ∀ cs, (rens r cs).length = cs.length := fun cs => by rw [rens_map]; simp
  cases x with
  | row cs m =>
    cases m with
    | dead => exact Iff.rfl
    | ro => simp only [Blk.ren, BRel, hlen, hrow]
    | rw => simp only [Blk.ren, BRel, hlen, hrow]
  | map es =>
    simp only [Blk.ren, BRel, List.length_map]
    constructor
    · rintro ⟨es', cl, h1, h2, h3⟩
      refine ⟨es', cl, h1, h2, fun j k v hj => ?_⟩
      obtain ⟨me, e, r1, r2⟩ := h3 j (k.ren r) (v.ren r) (by rw [List.getElem?_map, hj]; rfl)
      exact ⟨me, e, ren_rel.1 r1, ren_rel.1 r2⟩
    · rintro ⟨es', cl, h1, h2, h3⟩
      refine ⟨es', cl, h1, h2, fun j k v hj => ?_⟩
      rw [List.getElem?_map] at hj
      obtain ⟨⟨k0, v0⟩, hy, e0⟩ := Option.map_eq_some_iff.1 hj
      injection e0 with e1 e2
      subst e1; subst e2
      obtain ⟨me, e, r1, r2⟩ := h3 j k0 v0 hy
      exact ⟨me, e, ren_rel.2 r1, ren_rel.2 r2⟩

/-- The numbers of a small memory's blocks, told by a great one's; what is new comes behind. -/
def extN (r : Nat → Nat) (n0 n : Nat) : Nat → Nat := fun b => if b < n0 then r b else n + (b - n0)

theorem call_frame_core {P : Program} {T : Tab} {f : FuncId} {xs0 : List AVal} {σ0 σ0' : Heap} {v0 : AVal} (h : CallOK P T f xs0 σ0 v0 σ0') (hro : ∀ (b : Nat) (x : Blk), σ0[b]? = some x → x.isRW = false)
    {σ : Heap} (r : Nat → Nat) (hr : ∀ (b : Nat) (x : Blk), σ0[b]? = some x → ∃ y, σ[r b]? = some y ∧ y.frz = x.ren (extN r σ0.length σ.length)) (hglob : ∀ g, T.glob g = true → r g = g ∧ g < σ0.length) :
    ∀ (ρ : Mp) (ws : List Value) (w : World), HRel ρ σ w → GRel T ρ → VRels ρ noL (rens (extN r σ0.length σ.length) xs0) ws →
      Calls P f ws.toArray w fun e w' => ∃ cv ρ', e = .returned cv ∧ HRel ρ' (σ ++ (σ0'.drop σ0.length).map (Blk.ren (extN r σ0.length σ.length))) w' ∧ VRel ρ' noL (v0.ren (extN r σ0.length σ.length)) cv ∧
        Step ρ noL [] σ w ρ' noL [] (σ ++ (σ0'.drop σ0.length).map (Blk.ren (extN r σ0.length σ.length))) w' ∧ ∀ k, k < w.heap.size → w'.heap[k]? = w.heap[k]? := by
  intro ρ ws w hH hG hw
  let Rn := extN r σ0.length σ.length
  have R1 : ∀ b, b < σ0.length → Rn b = r b := fun b hb => by simp only [Rn, extN, if_pos hb]
  have R2 : ∀ b, σ0.length ≤ b → Rn b = σ.length + (b - σ0.length) := fun b hb => by simp only [Rn, extN]; rw [if_neg (by omega)]
  let ρ0 : Mp := fun b => ρ (Rn b)
  have hlt : ∀ b pl, ρ b = some pl → b < σ.length := fun b pl hb => let ⟨x, hx, _⟩ := hH.blk b pl hb; (List.getElem?_eq_some_iff.1 hx).1
  have h0lt : ∀ b pl, ρ0 b = some pl → b < σ0.length := fun b pl hb => by
    have := hlt _ _ hb
    rcases Nat.lt_or_ge b σ0.length with h | h
    · exact h
    · rw [R2 b h] at this; omega
  have hH0 : HRel ρ0 σ0 w := ⟨fun b pl hb => by
    have hb0 := h0lt b pl hb
    have hx : σ0[b]? = some σ0[b] := by simp [hb0]
    obtain ⟨y, hy, hyx⟩ := hr b _ hx
    obtain ⟨y', hy', hB⟩ := hH.blk _ _ hb
    rw [R1 b hb0, hy] at hy'
    injection hy' with hy'
    subst hy'
    refine ⟨_, hx, ren_brel.1 ?_⟩
    rw [← hyx]
    exact hB.frz, fun b b' pl pl' x x' _ _ hx _ _ _ _ hrw => by rw [hro b x hx] at hrw; cases hrw⟩
  have hG0 : GRel T ρ0 := fun g hg => by
    obtain ⟨n, hn⟩ := hG g hg
    obtain ⟨g1, g2⟩ := hglob g hg
    exact ⟨n, by simp only [ρ0]; rw [R1 g g2, g1]; exact hn⟩
  refine Calls.mono (h ρ0 ws w hH0 hG0 (rens_rel.1 hw)) fun e w' ⟨cv, ρ0', he, q1, q2, q3⟩ => ?_
  have hx : ∀ k, k < w.heap.size → w'.heap[k]? = w.heap[k]? := fun k hk => q3.unch k hk (fun b pl x _ hx hrw => by rw [hro b x hx] at hrw; cases hrw) (fun t h => by cases h)
  have hlen := q3.len
  let ρ' : Mp := fun b => if b < σ.length then ρ b else ρ0' (b - σ.length + σ0.length)
  have e1 : ∀ b pl, ρ b = some pl → ρ' b = some pl := fun b pl hb => by simp only [ρ', if_pos (hlt b pl hb)]; exact hb
  have e2 : ∀ d pl, ρ0' d = some pl → ρ' (Rn d) = some pl := fun d pl hd => by
    rcases Nat.lt_or_ge d σ0.length with hd0 | hd0
    · cases h0 : ρ0 d with
      | none => have := q3.new d h0 (by rw [hd]; simp); omega
      | some pl0 =>
        have := q3.ext d pl0 h0
        rw [hd] at this
        injection this with this
        subst this
        exact e1 _ _ h0
    · rw [R2 d hd0]
      simp only [ρ']
      rw [if_neg (by omega), show σ.length + (d - σ0.length) - σ.length + σ0.length = d by omega]
      exact hd
  have hnew : ∀ b x, σ.length ≤ b → (σ ++ (σ0'.drop σ0.length).map (Blk.ren Rn))[b]? = some x → ∃ y, σ0'[b - σ.length + σ0.length]? = some y ∧ x = y.ren Rn := fun b x hb hx => by
    rw [List.getElem?_append_right hb, List.getElem?_map, List.getElem?_drop] at hx
    obtain ⟨y, hy, rfl⟩ := Option.map_eq_some_iff.1 hx
    exact ⟨y, by rw [show b - σ.length + σ0.length = σ0.length + (b - σ.length) by omega]; exact hy, rfl⟩
  have hfresh : ∀ (c : Nat) pl y, ρ0' c = some pl → σ0'[c]? = some y → y.isRW = true → w.heap.size ≤ pl.blk := fun c pl y h1 h2 h3 => by
    rcases q3.prov c pl y h1 h2 h3 with h | ⟨b0, pl0, x0, g1, g2, g3, g4⟩
    · exact h
    · rw [hro b0 x0 g2] at g3; cases g3
  have hnro : ∀ (c : Nat) y, σ0.length ≤ c → σ0'[c]? = some y → y.isRO = false := fun c y h1 h2 => by
    cases hy : y.isRO with
    | false => rfl
    | true =>
      have := (List.getElem?_eq_some_iff.1 (q3.rob c y h2 hy)).1
      omega
  have holdx : ∀ b, b < σ.length → (σ ++ (σ0'.drop σ0.length).map (Blk.ren Rn))[b]? = σ[b]? := fun b hb => List.getElem?_append_left hb
  refine ⟨cv, ρ', he, ⟨fun b pl hb => ?_, fun b b' pl pl' x x' hb hb' hx1 hx2 hne hl hl' hrw => ?_⟩, ren_rel.2 (q2.mono e2 (fun _ _ h => h)), ⟨q3.os, q3.tape, q3.output, q3.size, by simp, e1, fun b h0 h1 => ?_, fun k hk _ _ => hx k hk, fun b pl x hb hx1 hrw => ?_,
    fun b x hb hrw => ?_, fun b x hb hrw => ?_, fun t k h => by cases h⟩, hx⟩
  · rcases Nat.lt_or_ge b σ.length with hbl | hbl
    · simp only [ρ', if_pos hbl] at hb
      obtain ⟨x, h1, hB⟩ := hH.blk b pl hb
      exact ⟨x, by rw [holdx b hbl]; exact h1, hB.mono e1 (fun hl => hx _ (hB.lt hl))⟩
    · simp only [ρ'] at hb
      rw [if_neg (by omega)] at hb
      obtain ⟨y, h1, hB⟩ := q1.blk _ _ hb
      refine ⟨y.ren Rn, ?_, ren_brel.2 (hB.mono e2 (fun _ => rfl))⟩
      rw [List.getElem?_append_right hbl, List.getElem?_map, List.getElem?_drop, show σ0.length + (b - σ.length) = b - σ.length + σ0.length by omega, h1]
      rfl
  · have side : ∀ b pl x, ρ' b = some pl → (σ ++ (σ0'.drop σ0.length).map (Blk.ren Rn))[b]? = some x → x.live = true →
        (b < σ.length ∧ ρ b = some pl ∧ σ[b]? = some x ∧ pl.blk < w.heap.size) ∨ (σ.length ≤ b ∧ ∃ y, ρ0' (b - σ.length + σ0.length) = some pl ∧ σ0'[b - σ.length + σ0.length]? = some y ∧ x = y.ren Rn ∧ w.heap.size ≤ pl.blk) := fun b pl x hb hx1 hl => by
      rcases Nat.lt_or_ge b σ.length with hbl | hbl
      · simp only [ρ', if_pos hbl] at hb
        rw [holdx b hbl] at hx1
        obtain ⟨y, h1, hB⟩ := hH.blk b pl hb
        rw [hx1] at h1
        injection h1 with h1
        subst h1
        exact .inl ⟨hbl, hb, hx1, hB.lt hl⟩
      · simp only [ρ'] at hb
        rw [if_neg (by omega)] at hb
        obtain ⟨y, h1, rfl⟩ := hnew b x hbl hx1
        refine .inr ⟨hbl, y, hb, h1, rfl, ?_⟩
        rw [Blk.ren_live] at hl
        rcases Blk.live_cases hl with h | h
        · exact hfresh _ _ _ hb h1 h
        · rw [hnro _ y (by omega) h1] at h; cases h
    rcases side b pl x hb hx1 hl with ⟨a1, a2, a3, a4⟩ | ⟨a1, y, a2, a3, rfl, a4⟩ <;> rcases side b' pl' x' hb' hx2 hl' with ⟨c1, c2, c3, c4⟩ | ⟨c1, y', c2, c3, rfl, c4⟩
    · exact hH.dis b b' pl pl' x x' a2 c2 a3 c3 hne hl hl' hrw
    · omega
    · omega
    · rw [Blk.ren_live] at hl hl'
      rw [Blk.ren_isRW] at hrw
      exact q1.dis _ _ pl pl' y y' a2 c2 a3 c3 (by omega) hl hl' hrw
  · rcases Nat.lt_or_ge b σ.length with hbl | hbl
    · simp only [ρ', if_pos hbl] at h1; exact absurd h0 h1
    · exact hbl
  · rcases Nat.lt_or_ge b σ.length with hbl | hbl
    · simp only [ρ', if_pos hbl] at hb
      rw [holdx b hbl] at hx1
      exact .inr ⟨b, pl, x, hb, hx1, hrw, rfl⟩
    · simp only [ρ'] at hb
      rw [if_neg (by omega)] at hb
      obtain ⟨y, h1, rfl⟩ := hnew b x hbl hx1
      rw [Blk.ren_isRW] at hrw
      exact .inl (hfresh _ _ _ hb h1 hrw)
  · rw [holdx b (List.getElem?_eq_some_iff.1 hb).1]; exact hb
  · rcases Nat.lt_or_ge b σ.length with hbl | hbl
    · rw [holdx b hbl] at hb; exact hb
    · obtain ⟨y, h1, rfl⟩ := hnew b x hbl hb
      rw [Blk.ren_isRO, hnro _ y (by omega) h1] at hrw
      cases hrw

mutual
/-- No memory in it. -/
def AVal.flat : AVal → Bool
  | .bool _ | .int _ _ | .str _ | .undef | .void => true
  | .agg cs => flats cs
  | .tuple cs => flats cs
  | _ => false
def flats : List AVal → Bool
  | [] => true
  | c :: cs => c.flat && flats cs
end
mutual
theorem flat_rel {ρ ρ' : Mp} {lm lm' : Lp} : ∀ {x : AVal} {v : Value}, x.flat = true → VRel ρ lm x v → VRel ρ' lm' x v
  | .bool _, _, _, h => by simpa [VRel] using h
  | .int _ _, _, _, h => by simpa [VRel] using h
  | .str _, _, _, h => by simpa [VRel] using h
  | .undef, _, _, _ => by simp [VRel]
  | .void, _, _, h => by simpa [VRel] using h
  | .agg cs, _, hf, h => by
    simp only [VRel] at h ⊢
    obtain ⟨vs, h1, h2⟩ := h
    exact ⟨vs, h1, flats_rel hf h2⟩
  | .tuple cs, _, hf, h => by
    simp only [VRel] at h ⊢
    obtain ⟨vs, h1, h2⟩ := h
    exact ⟨vs, h1, flats_rel hf h2⟩
  | .ptr _, _, hf, _ => by simp [AVal.flat] at hf
  | .lptr _ _, _, hf, _ => by simp [AVal.flat] at hf
  | .slice _ _ _ _, _, hf, _ => by simp [AVal.flat] at hf
  | .lslice _ _ _, _, hf, _ => by simp [AVal.flat] at hf
  | .map _, _, hf, _ => by simp [AVal.flat] at hf
  | .func _ _, _, hf, _ => by simp [AVal.flat] at hf
  | .nilfunc, _, hf, _ => by simp [AVal.flat] at hf
  | .iface _ _, _, hf, _ => by simp [AVal.flat] at hf
  | .niliface, _, hf, _ => by simp [AVal.flat] at hf
theorem flats_rel {ρ ρ' : Mp} {lm lm' : Lp} : ∀ {xs : List AVal} {vs : List Value}, flats xs = true → VRels ρ lm xs vs → VRels ρ' lm' xs vs
  | [], _, _, h => by simpa [VRels] using h
  | x :: xs, vs, hf, h => by
    simp only [flats, Bool.and_eq_true] at hf
    simp only [VRels] at h ⊢
    obtain ⟨v, vs', h1, h2, h3⟩ := h
    exact ⟨v, vs', h1, flat_rel hf.1 h2, flats_rel hf.2 h3⟩
end

theorem call_frame {P : Program} {T : Tab} {f : FuncId} {xs0 : List AVal} {σ0 σ0' : Heap} {v0 : AVal} (h : CallOK P T f xs0 σ0 v0 σ0') (hro : ∀ (b : Nat) (x : Blk), σ0[b]? = some x → x.isRW = false)
    {σ : Heap} (r : Nat → Nat) (hr : ∀ (b : Nat) (x : Blk), σ0[b]? = some x → ∃ y, σ[r b]? = some y ∧ y.frz = x.ren (extN r σ0.length σ.length)) (hglob : ∀ g, T.glob g = true → r g = g ∧ g < σ0.length) :
    CallOK P T f (rens (extN r σ0.length σ.length) xs0) σ (v0.ren (extN r σ0.length σ.length)) (σ ++ (σ0'.drop σ0.length).map (Blk.ren (extN r σ0.length σ.length))) := by
  intro ρ ws w hH hG hw
  exact Calls.mono (call_frame_core h hro r hr hglob ρ ws w hH hG hw) fun e w' ⟨cv, ρ', he, q1, q2, q3, _⟩ => ⟨cv, ρ', he, q1, q2, q3⟩

/-- .. and where the answer leads to no memory, what is new is forgotten. -/
theorem call_frame_flat {P : Program} {T : Tab} {f : FuncId} {xs0 : List AVal} {σ0 σ0' : Heap} {v0 : AVal} (h : CallOK P T f xs0 σ0 v0 σ0') (hv : v0.flat = true) (hro : ∀ (b : Nat) (x : Blk), σ0[b]? = some x → x.isRW = false)
    {σ : Heap} (r : Nat → Nat) (hr : ∀ (b : Nat) (x : Blk), σ0[b]? = some x → ∃ y, σ[r b]? = some y ∧ y.frz = x.ren (extN r σ0.length σ.length)) (hglob : ∀ g, T.glob g = true → r g = g ∧ g < σ0.length) :
    CallOK P T f (rens (extN r σ0.length σ.length) xs0) σ v0 σ := by
  intro ρ ws w hH hG hw
  refine Calls.mono (call_frame_core h hro r hr hglob ρ ws w hH hG hw) fun e w' ⟨cv, ρ', he, q1, q2, q3, hx⟩ => ?_
  refine ⟨cv, ρ, he, hH.grow hx, flat_rel hv (ren_rel.1 q2), q3.os, q3.tape, q3.output, q3.size, Nat.le_refl _, fun _ _ h => h, fun _ h h' => absurd h h', fun k hk _ _ => hx k hk, fun b pl x h hx hr => .inr ⟨b, pl, x, h, hx, hr, rfl⟩, fun _ _ h _ => h, fun _ _ h _ => h, fun t k h => by cases h⟩
end Go.Abs
