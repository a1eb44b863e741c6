/-
A row's arguments in the abstract memory; what a row asks of a call.
-/
import Derived.Test.YtcfohnfnajfahaaDoorAbs22
namespace Go.Abs
open Go Go.ChangeShapes Go.WideShapes Go.RowKit Go.Deep

section
variable {P : Program} {H : Type} {enc : TypeId × Value → H} {W : World} {base : Nat} {sp : Nat → Bool} {hd : Bool}

/-- A struct. -/
theorem arg_struct {fs : Array Field} {t : TypeId} {ss : List Sh} (hq : eqOk P 40 t ss = true) (ht : P.underlying t = some (.struct fs)) {r : Reach} {b0 : Nat} {v : Value} (hval : Value.okWide P W r b0 t v) {d : DataW H} {ps : List MemPlace}
    (h : DataW.Trod enc P W base sp hd t v d ps) : ∃ xs, ShOKs ss xs ∧ ∀ ρ lm, VRel ρ lm (.agg xs) v := by
  obtain ⟨fuel, hf⟩ := h
  obtain ⟨xs, h1, h2⟩ := flat_open 40 t ss hq hf
  simp only [Value.okWide, ht] at hval
  obtain ⟨cs, rfl, _⟩ := hval
  refine ⟨xs, h2, fun ρ lm => ?_⟩
  simp only [VRel]
  exact ⟨cs.toList, by simp, h2.any (by simpa [Value.cells] using h1)⟩

theorem rows_get {z : Nat} : ∀ {rows : List (List AVal)}, (∀ r ∈ rows, r.length = z) → ∀ (i j : Nat), j < z → rows.flatten[i * z + j]? = (rows[i]?).bind (fun r => r[j]?)
  | [], _, i, j, _ => by simp
  | r :: rows, h, 0, j, hj => by
    have := h r List.mem_cons_self
    simp only [List.flatten_cons, Nat.zero_mul, Nat.zero_add, List.getElem?_cons_zero, Option.bind_some]
    rw [List.getElem?_append_left (by omega)]
  | r :: rows, h, i + 1, j, hj => by
    have h0 := h r List.mem_cons_self
    simp only [List.flatten_cons, List.getElem?_cons_succ]
    rw [List.getElem?_append_right (by rw [h0, Nat.add_mul]; omega), h0, show (i + 1) * z + j - z = i * z + j by rw [Nat.add_mul]; omega]
    exact rows_get (fun r hr => h r (List.mem_cons_of_mem _ hr)) i j hj
theorem flatten_length {z : Nat} : ∀ {rows : List (List AVal)}, (∀ r ∈ rows, r.length = z) → rows.flatten.length = rows.length * z
  | [], _ => by simp
  | r :: rows, h => by
    have h0 := h r List.mem_cons_self
    simp only [List.flatten_cons, List.length_append, List.length_cons, flatten_length fun r hr => h r (List.mem_cons_of_mem _ hr), h0]
    rw [Nat.add_mul]; omega

/-- A slice of flat elements: none; or a block that can be read. 'g': a block that is there anyhow. -/
theorem arg_slice {t e : TypeId} {ss : List Sh} (hq : eqOk P 40 e ss = true) (ht : P.underlying t = some (.slice e)) (hc : P.cellsOf e = ss.length) (hz : 0 < ss.length) {r : Reach} {b0 : Nat} {v : Value} (hval : Value.okWide P W r b0 t v) {d : DataW H} {ps : List MemPlace}
    (h : DataW.Trod enc P W 0 (fun _ => true) hd t v d ps) {g : Pl} (hg : ∀ ρ, BRel ρ g W (.row [] .ro)) :
    (v = .slice none 0 0) ∨ ∃ (pl : Pl) (rows : List (List AVal)), (∀ r ∈ rows, ShOKs ss r) ∧ rows.length ≤ maxLen ∧ (∀ ρ, BRel ρ pl W (.row rows.flatten .ro)) ∧ ∀ (ρ : Mp) lm b, ρ b = some pl → VRel ρ lm (.slice (some b) 0 rows.length ss.length) v := by
  obtain ⟨fuel, hf⟩ := h
  have hcell : ∀ (x : Option Addr) (y1 y2 : Nat), v.cells.toList = [.slice x y1 y2] → v = .slice x y1 y2 := fun x y1 y2 hx => by
    cases v with
    | agg cs =>
      simp only [Value.okWide, ht, Cell.okWide] at hval
      try simp [Cell.ok] at hval
    | slice a b c => simpa [Value.cells] using hx
    | _ => simp [Value.cells] at hx
  rcases open_slice ht hf with ⟨h1, _⟩ | ⟨a, len, cap, m, n, D, Pl', h1, _, h2, h3, h4, _, hx⟩
  · exact .inl (hcell none 0 0 h1)
  right
  simp only [if_true] at h4
  subst h4
  have hv := hcell (some a) len m h1
  subst hv
  have hm63 : m ≤ 9223372036854775807 := h3
  obtain ⟨rows, hrl, hrows⟩ := exists_list (fun i (xs : List AVal) => ShOKs ss xs ∧ ∃ cs', W.cells? 0 (a.add (i * P.cellsOf e)) (P.cellsOf e) = some cs' ∧ VRels (fun _ => none) noL xs cs') len fun i hi => by
    obtain ⟨cs', c1, c2⟩ := hx i (by omega)
    obtain ⟨xs, x1, x2⟩ := flat_open 40 e ss hq c2
    exact ⟨xs, x2, cs', c1, x1⟩
  have hro : ∀ r ∈ rows, ShOKs ss r := fun r hr => by
    obtain ⟨i, hi⟩ := List.mem_iff_getElem?.1 hr
    exact (hrows i r hi).1
  rcases Nat.eq_zero_or_pos len with h0 | h0
  · -- nothing in it
    subst h0
    obtain rfl : rows = [] := List.eq_nil_of_length_eq_zero hrl
    rcases Nat.eq_zero_or_pos m with hm0 | hm0
    · subst hm0
      exact ⟨g, [], by simp, by simp, hg, fun ρ lm b hb => by simp only [VRel]; exact ⟨g, a, 0, hb, by simp, by simp, by omega, .inl rfl⟩⟩
    · obtain ⟨cs', c1, c2⟩ := hx (m - 1) (by omega)
      obtain ⟨_, cl, cc⟩ := World.cells?_some c1
      obtain ⟨cs0, d1, d2⟩ := hx 0 hm0
      obtain ⟨_, dl, dc⟩ := World.cells?_some d1
      have e0 := dc 0 (by omega)
      rw [Nat.zero_mul] at e0
      have ea : (a.add 0).add 0 = a := by simp [Addr.add]
      rw [ea, List.getElem?_eq_getElem (by omega)] at e0
      have hspot : a.spot = none := by
        cases hs : a.spot with
        | none => rfl
        | some q => simp only [World.cell?, hs, Option.isSome_some, if_true] at e0; split at e0 <;> cases e0
      obtain ⟨ab, ao, as⟩ := a
      simp only at hspot
      subst hspot
      have en := cc (P.cellsOf e - 1) (by omega)
      rw [add_add] at en
      rw [List.getElem?_eq_getElem (by omega), add_none] at en
      simp only [World.cell?] at en e0
      split at en
      · rename_i c ty fr hcb
        simp only [Option.isSome_none, Bool.false_eq_true, if_false] at en
        have hlt := (Array.getElem?_eq_some_iff.1 en).1
        have hmul : m * P.cellsOf e = (m - 1) * P.cellsOf e + P.cellsOf e := by
          rw [← Nat.succ_mul]; congr 1; omega
        refine ⟨⟨ab, ao, c.size⟩, [], by simp, by simp, fun ρ => ⟨c, ty, fr, hcb, rfl, by simp; omega, fun j x hx => by simp at hx, fun h => (by cases h), fun j hj => (by simp at hj)⟩, fun ρ lm b hb => ?_⟩
        simp only [VRel]
        refine ⟨_, ⟨ab, ao, none⟩, m, hb, by simp, by simp, hm63, .inr ⟨by simp, ?_⟩⟩
        rw [← hc]
        simp only
        omega
      · cases en
  · obtain ⟨cs0, d1, d2⟩ := hx 0 (by omega)
    obtain ⟨_, dl, dc⟩ := World.cells?_some d1
    have e0 := dc 0 (by omega)
    rw [Nat.zero_mul] at e0
    have ea : (a.add 0).add 0 = a := by simp [Addr.add]
    rw [ea, List.getElem?_eq_getElem (by omega)] at e0
    have hspot : a.spot = none := by
      cases hs : a.spot with
      | none => rfl
      | some q => simp only [World.cell?, hs, Option.isSome_some, if_true] at e0; split at e0 <;> cases e0
    obtain ⟨ab, ao, as⟩ := a
    simp only at hspot
    subst hspot
    obtain ⟨cs', c1, c2⟩ := hx (m - 1) (by omega)
    obtain ⟨_, cl, cc⟩ := World.cells?_some c1
    have en := cc (P.cellsOf e - 1) (by omega)
    rw [add_add] at en
    rw [List.getElem?_eq_getElem (by omega), add_none] at en
    simp only [World.cell?] at en
    split at en
    · rename_i c ty fr hcb
      simp only [Option.isSome_none, Bool.false_eq_true, if_false] at en
      have hlt := (Array.getElem?_eq_some_iff.1 en).1
      have hmul : m * P.cellsOf e = (m - 1) * P.cellsOf e + P.cellsOf e := by
        rw [← Nat.succ_mul]; congr 1; omega
      have hlen : ∀ r ∈ rows, r.length = ss.length := fun r hr => (hro r hr).length
      have hfl := flatten_length hlen
      have hle : len * P.cellsOf e ≤ m * P.cellsOf e := Nat.mul_le_mul_right _ h2
      have hcellat : ∀ j x, rows.flatten[j]? = some x → ∃ i k xs us, xs ∈ rows ∧ VRels (fun _ => none) noL xs us ∧ xs[k]? = some x ∧ c[ao + j]? = us[k]? ∧ i < len ∧ k < ss.length := fun j x hj => by
        have hjl := (List.getElem?_eq_some_iff.1 hj).1
        rw [hfl, hrl] at hjl
        have hk : j % ss.length < ss.length := Nat.mod_lt _ hz
        have hi : j / ss.length < len := (Nat.div_lt_iff_lt_mul hz).2 hjl
        have hj' : j = j / ss.length * ss.length + j % ss.length := by rw [Nat.mul_comm]; exact (Nat.div_add_mod _ _).symm
        rw [hj', rows_get hlen _ _ hk] at hj
        obtain ⟨xs, g1, g2⟩ := Option.bind_eq_some_iff.1 hj
        obtain ⟨g3, us, g4, g5⟩ := hrows _ xs g1
        obtain ⟨_, gl, gc⟩ := World.cells?_some g4
        refine ⟨j / ss.length, j % ss.length, xs, us, List.mem_of_getElem? g1, g5, g2, ?_, hi, hk⟩
        rw [← gc (j % ss.length) (by omega), add_add, add_none]
        simp only [World.cell?, hcb, Option.isSome_none, Bool.false_eq_true, if_false]
        rw [hc, ← hj']
      refine ⟨⟨ab, ao, c.size⟩, rows, hro, by omega, fun ρ => ⟨c, ty, fr, hcb, rfl, by simp only; rw [hfl, hrl, ← hc]; omega, fun j x hj => ?_, fun h => (by cases h), fun j hj u hu => ?_⟩, fun ρ lm b hb => ?_⟩
      · obtain ⟨i, k, xs, us, hxs, g5, g2, g6, _, _⟩ := hcellat j x hj
        obtain ⟨u, u1, u2⟩ := ((hro xs hxs).any g5 : VRels ρ noL xs us).get k x g2
        exact ⟨u, g6.trans u1, u2⟩
      · obtain ⟨i, k, xs, us, hxs, g5, g2, g6, _, _⟩ := hcellat j (rows.flatten[j]'hj) (by simp)
        simp only at hu
        rw [g6] at hu
        exact (hro xs hxs).cells g5 u (List.mem_of_getElem? hu)
      · simp only [VRel]
        refine ⟨_, ⟨ab, ao, none⟩, m, hb, by rw [hrl], by omega, hm63, .inr ⟨by simp, ?_⟩⟩
        rw [← hc]
        simp only
        omega
    · cases en

/-! ### The memory of a row -/
def mpOf (pls : List Pl) : Mp := fun b => pls[b]?
theorem hrel_of (pls : List Pl) (σ : Heap) (h : ∀ (b : Nat) (pl : Pl), pls[b]? = some pl → ∃ x : Blk, σ[b]? = some x ∧ BRel (mpOf pls) pl W x ∧ x.isRW = false) : HRel (mpOf pls) σ W where
  blk := fun b pl hb => let ⟨x, h1, h2, _⟩ := h b pl hb; ⟨x, h1, h2⟩
  dis := fun b b' pl pl' x x' hb _ hx _ _ _ _ hr => by
    obtain ⟨y, h1, _, h3⟩ := h b pl hb
    rw [hx] at h1
    injection h1 with h1
    subst h1
    rw [h3] at hr
    cases hr

/-- WHAT THE MACHINE SAYS OF A CALL, where all that is there is read alone. -/
theorem law_calls {T : Tab} {F : FuncId} {xs : List AVal} {σ : Heap} {ws : List Value} {pls : List Pl} (hH : HRel (mpOf pls) σ W) (hro : ∀ (b : Nat) (x : Blk), σ[b]? = some x → x.isRW = false) (hG : GRel T (mpOf pls)) (hw : VRels (mpOf pls) noL xs ws)
    {v : AVal} {σ' : Heap} (h2 : CallOK P T F xs σ v σ') : Calls P F ws.toArray W fun e W' => ∃ cv, e = .returned cv ∧ (∃ ρ', VRel ρ' noL v cv) ∧ Below W.heap.size W W' := by
  refine Calls.mono (h2 _ ws W hH hG hw) fun e W' ⟨cv, ρ', he, q1, q2, q3⟩ => ⟨cv, he, ⟨ρ', q2⟩, q3.os, q3.tape, q3.output, q3.size, fun k hk => ?_⟩
  exact q3.unch k hk (fun b pl x _ hx hr => by rw [hro b x hx] at hr; cases hr) (fun t h => by cases h)

theorem trodAll_stays (hl : laidOutB P = true) {W' : World} (hb : Below W.heap.size W W') : ∀ {ts : List TypeId} {vs : List Value} {ds : List (DataW H)} {ps : List MemPlace}, (ts.all fun t => P.readableRec t && decide (t < P.types.size)) = true →
    DataW.TrodAll enc P W 0 (fun _ => true) true ts vs ds ps → (∀ x ∈ ps, x.block < W.heap.size) → DataW.TrodAll enc P W' 0 (fun b => decide (b < W.heap.size)) true ts vs ds ps
  | [], vs, ds, ps, _, h, _ => by
    obtain ⟨rfl, rfl, rfl⟩ := trodAll_nil h
    exact trodAll_mk0
  | t :: ts, vs, ds, ps, hr, h, hlt => by
    obtain ⟨v, vs', d, ds', p, q, rfl, rfl, rfl, h1, h2⟩ := trodAll_cons h
    simp only [List.all_cons, Bool.and_eq_true, decide_eq_true_eq] at hr
    exact trodAll_cons_mk (Below.trod hl hr.1.1 hr.1.2 h1 hb (fun x hx => hlt x (List.mem_append_left _ hx))) (trodAll_stays hl hb hr.2 h2 (fun x hx => hlt x (List.mem_append_right _ hx)))

/-- The law says true, and what was there is as it was. -/
theorem law_post {f : Func} {s : ChangeSpec} {apart fresh handsOn : Bool} {W' : World} {args : Array Value} {ds gs : List (DataW H)} {before : List MemPlace} {rt : TypeId}
    (hl : laidOutB P = true) (hr : (f.params.toList.all fun t => P.readableRec t && decide (t < P.types.size)) = true) (hrt : f.resultTypes = #[rt]) (hb : P.underlying rt = some .bool) (hvars : s.vars = [])
    (hW : DataW.Whole enc P f.params.toList s.vars apart W args.toList ds gs before) (hs : s.fn H (ds ++ gs) = { results := [.lit (.bool true)], args := ds }) (hbel : Below W.heap.size W W') :
    s.post enc P f apart fresh handsOn false W args (.bool true) W' := by
  have hW' := hW
  obtain ⟨p, q, hA, hV, rfl, _, _⟩ := hW
  rw [hvars] at hV
  obtain ⟨rfl, rfl⟩ := trodVars_none hV
  have hlt : ∀ x ∈ p, x.block < W.heap.size := fun x hx => hW'.lt x (List.mem_append_left _ hx)
  refine ⟨ds, [], p ++ [], [], p, [], hW', ?_, ?_, ?_, hbel.frame _, fun h => by cases h⟩
  · rw [hs, hrt]
    exact trodAll_cons_mk (shut_bool hb true) trodAll_mk0
  · rw [hs]
    exact trodAll_stays hl hbel hr hA hlt
  · rw [hvars, hs]
    rfl
end
end Go.Abs
