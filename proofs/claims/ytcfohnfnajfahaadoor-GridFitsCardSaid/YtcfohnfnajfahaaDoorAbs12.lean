/-
Each operation: slices that grow, that are copied; builtins.
-/
import Derived.Test.YtcfohnfnajfahaaDoorAbs11
namespace Go.Abs
open Go

/-- A BLOCK THAT MAY BE WRITTEN is no more; another one lies in its place. -/
theorem regrow {ρ : Mp} {lm : Lp} {l : Locs} {σ : Heap} {w w' : World} (hH : HRel ρ σ w) (hL : LRel ρ lm l σ w) (b : Nat) (pl pl' : Pl) (x x' : Blk)
    (hb : ρ b = some pl) (hx : σ[b]? = some x) (hrw : x.isRW = true) (hp : pl'.blk = pl.blk) (hx' : BRel ρ pl' w' x') (hm : x'.isRW = true)
    (ho : w'.os = w.os) (ht : w'.tape = w.tape) (hu : w'.output = w.output) (hsz : w'.heap.size = w.heap.size) (hold : ∀ k, k ≠ pl.blk → w'.heap[k]? = w.heap[k]?) :
    HRel (upd ρ σ.length pl') (σ.set b (.row [] .dead) ++ [x']) w' ∧ LRel (upd ρ σ.length pl') lm l (σ.set b (.row [] .dead) ++ [x']) w' ∧
      Step ρ lm l σ w (upd ρ σ.length pl') lm l (σ.set b (.row [] .dead) ++ [x']) w' := by
  have hlt := (List.getElem?_eq_some_iff.1 hx).1
  have hlive := Blk.live_of_isRW hrw
  have hn := hH.none_of_len (Nat.le_refl _)
  have hext := upd_ext pl' hn
  have hget : ∀ c, (σ.set b (.row [] .dead) ++ [x'])[c]? = if c = σ.length then some x' else if c = b then some (.row [] .dead) else σ[c]? := fun c => by
    rw [getElem?_snoc, List.length_set]
    by_cases e : c = σ.length
    · rw [if_pos e, if_pos e]
    · rw [if_neg e, if_neg e]
      by_cases e' : c = b
      · subst e'; simp [hlt]
      · rw [List.getElem?_set_ne (Ne.symm e'), if_neg e']
  have hro : x'.isRO = false := by
    cases x' with
    | row cs m => cases m <;> simp_all [Blk.isRW, Blk.isRO]
    | map es => rfl
  -- any other live block lies elsewhere
  have other : ∀ c pc y, c ≠ σ.length → c ≠ b → ρ c = some pc → σ[c]? = some y → y.live = true → pc.blk ≠ pl.blk := fun c pc y _ h2 h3 h4 h5 he =>
    hH.dis b c pl pc x y hb h3 hx h4 (Ne.symm h2) hlive h5 hrw he.symm
  refine ⟨⟨fun c pc hc => ?_, fun c c' pc pc' y y' hc hc' hy hy' hne hl hl' hr => ?_⟩, ⟨fun t k hk => ?_, hL.inj, fun t k c pc y hk hc hy hl => ?_⟩, ?_⟩
  · rw [hget]
    by_cases e : c = σ.length
    · subst e
      rw [upd_same] at hc
      injection hc with hc
      subst hc
      exact ⟨x', by rw [if_pos rfl], hx'.mono hext (fun _ => rfl)⟩
    · rw [upd_ne _ _ e] at hc
      rw [if_neg e]
      by_cases e' : c = b
      · exact ⟨.row [] .dead, by rw [if_pos e'], trivial⟩
      · rw [if_neg e']
        obtain ⟨y, hy, hB⟩ := hH.blk c pc hc
        exact ⟨y, hy, hB.mono hext (fun hl => hold _ (other c pc y e e' hc hy hl))⟩
  · rw [hget] at hy hy'
    by_cases e : c = σ.length
    · subst e
      rw [upd_same] at hc
      injection hc with hc
      subst hc
      rw [upd_ne _ _ (Ne.symm hne)] at hc'
      rw [if_neg (Ne.symm hne)] at hy'
      by_cases e' : c' = b
      · rw [if_pos e'] at hy'; injection hy' with hy'; subst hy'; simp [Blk.live] at hl'
      · rw [if_neg e'] at hy'
        rw [hp]
        exact fun he => other c' pc' y' (Ne.symm hne) e' hc' hy' hl' he.symm
    · rw [upd_ne _ _ e] at hc
      rw [if_neg e] at hy
      by_cases eb : c = b
      · rw [if_pos eb] at hy; injection hy with hy; subst hy; simp [Blk.live] at hl
      · rw [if_neg eb] at hy
        by_cases e' : c' = σ.length
        · subst e'
          rw [upd_same] at hc'
          injection hc' with hc'
          subst hc'
          rw [hp]
          exact other c pc y e eb hc hy hl
        · rw [upd_ne _ _ e'] at hc'
          rw [if_neg e'] at hy'
          by_cases eb' : c' = b
          · rw [if_pos eb'] at hy'; injection hy' with hy'; subst hy'; simp [Blk.live] at hl'
          · rw [if_neg eb'] at hy'
            exact hH.dis c c' pc pc' y y' hc hc' hy hy' hne hl hl' hr
  · obtain ⟨h1, h2⟩ := hL.loc t k hk
    exact ⟨by omega, h2.mono hext (hold k fun he => hL.apart t k b pl x hk hb hx hlive he.symm)⟩
  · rw [hget] at hy
    by_cases e : c = σ.length
    · subst e
      rw [upd_same] at hc
      injection hc with hc
      subst hc
      rw [hp]
      exact hL.apart t k b pl x hk hb hx hlive
    · rw [upd_ne _ _ e] at hc
      rw [if_neg e] at hy
      by_cases eb : c = b
      · rw [if_pos eb] at hy; injection hy with hy; subst hy; simp [Blk.live] at hl
      · rw [if_neg eb] at hy
        exact hL.apart t k c pc y hk hc hy hl
  · refine ⟨ho, ht, hu, by omega, by simp, hext, fun c h0 h1 => ?_, fun k _ h1 _ => hold k (Ne.symm (h1 b pl x hb hx hrw)), fun c pc y hc hy hr => ?_, fun c y hc hr => ?_, fun c y hc hr => ?_, fun t k hk h2 => .inr ⟨t, hk, h2⟩⟩
    · by_cases e : c = σ.length
      · omega
      · rw [upd_ne _ _ e] at h1; exact absurd h0 h1
    · rw [hget] at hy
      by_cases e : c = σ.length
      · subst e
        rw [upd_same] at hc
        injection hc with hc
        subst hc
        exact .inr ⟨b, pl, x, hb, hx, hrw, hp.symm⟩
      · rw [upd_ne _ _ e] at hc
        rw [if_neg e] at hy
        by_cases eb : c = b
        · rw [if_pos eb] at hy; injection hy with hy; subst hy; simp [Blk.isRW] at hr
        · rw [if_neg eb] at hy
          exact .inr ⟨c, pc, y, hc, hy, hr, rfl⟩
    · have hcl := (List.getElem?_eq_some_iff.1 hc).1
      rw [hget, if_neg (by omega)]
      by_cases eb : c = b
      · subst eb
        rw [hx] at hc
        injection hc with hc
        subst hc
        cases x with
        | row cs m => cases m <;> simp_all [Blk.isRW, Blk.isRO]
        | map es => simp [Blk.isRO] at hr
      · rw [if_neg eb]; exact hc
    · rw [hget] at hc
      by_cases e : c = σ.length
      · rw [if_pos e] at hc; injection hc with hc; subst hc; rw [hro] at hr; cases hr
      · rw [if_neg e] at hc
        by_cases eb : c = b
        · rw [if_pos eb] at hc; injection hc with hc; subst hc; simp [Blk.isRO] at hr
        · rwa [if_neg eb] at hc

/-- A block is no more. -/
theorem kill_block {ρ : Mp} {lm : Lp} {l : Locs} {σ : Heap} {w : World} (hH : HRel ρ σ w) (hL : LRel ρ lm l σ w) (b : Nat) (pl : Pl) (x : Blk)
    (hb : ρ b = some pl) (hx : σ[b]? = some x) (hrw : x.isRW = true) :
    HRel ρ (σ.set b (.row [] .dead)) w ∧ LRel ρ lm l (σ.set b (.row [] .dead)) w ∧ Step ρ lm l σ w ρ lm l (σ.set b (.row [] .dead)) w :=
  turn_block hH hL b pl x (.row [] .dead) hb hx hrw trivial (.inr rfl) rfl rfl rfl rfl (fun _ _ => rfl)

section
variable {P : Program} {T : Tab} {R : Type} {o : Oper} {e : Env} {l : Locs} {σ : Heap} {k : AVal → Locs → Heap → Option R} {r : R}

/-- The cells of a slice, on both sides. -/
theorem read_rel {ρ : Mp} {lm : Lp} {w : World} (hH : HRel ρ σ w) {b : Option Nat} {o' n z : Nat} {cs : List AVal} (h : σ.read b o' n z = some cs) {v : Value} (hv : VRel ρ lm (.slice b o' n z) v) :
    ∃ us : List Value, VRels ρ noL cs us ∧ us.length = (if b = none then 0 else n * z) ∧ (∀ u ∈ us, u.oneCell' = true) ∧ ∀ (m : Nat), m * z ≤ us.length → ∀ w' : World, w'.heap = w.heap → (Builtin.firstCells z m v).run P w' = .ok (us.take (m * z)).toArray w' := by
  unfold Heap.read at h
  cases b with
  | none =>
    simp only [Option.some.injEq] at h
    subst h
    refine ⟨[], by simp [VRels], by simp, by simp, fun m hm w' _ => ?_⟩
    obtain ⟨_, _, rfl⟩ := by simpa only [VRel] using hv
    simp [Builtin.firstCells]
  | some b =>
    obtain ⟨cs', h1, h2⟩ := Option.bind_eq_some_iff.1 h
    split at h2
    · rename_i hl
      injection h2 with h2
      subst h2
      obtain ⟨pl, a, cap, hp, rfl, h4, h5, h6⟩ := by simpa only [VRel] using hv
      obtain ⟨c, ty, fr, g1, g2, g3, g4, g6⟩ := row_rel hH hp h1
      obtain ⟨us, hul, hus⟩ := exists_list (fun m u => w.cell? ⟨pl.blk, pl.off + o' + m, none⟩ = some u ∧ ∀ y, ((cs'.drop o').take (n * z))[m]? = some y → VRel ρ noL y u) (n * z) fun m hm => by
        have hml : o' + m < cs'.length := by omega
        obtain ⟨u, e1, r1⟩ := g4 (o' + m) cs'[o' + m] (by simp [hml])
        refine ⟨u, by rw [Nat.add_assoc]; simp [World.cell?, g1, e1], fun y hy => ?_⟩
        rw [List.getElem?_take, if_pos hm, List.getElem?_drop, List.getElem?_eq_getElem hml] at hy
        injection hy with hy
        subst hy
        exact r1
      have hlen : ((cs'.drop o').take (n * z)).length = n * z := by rw [List.length_take, List.length_drop]; omega
      refine ⟨us, VRels.of_get (by omega) fun j x hx => ?_, by simp [hul], fun u hu => ?_, fun m hm w' hw' => ?_⟩
      · have hj := (List.getElem?_eq_some_iff.1 hx).1
        have hj' : j < us.length := by omega
        exact ⟨us[j], by simp [hj'], (hus j us[j] (by simp [hj'])).2 x hx⟩
      · obtain ⟨j, hj⟩ := List.mem_iff_getElem?.1 hu
        have := (hus j u hj).1
        simp only [World.cell?, g1] at this
        have hjl : j < us.length := (List.getElem?_eq_some_iff.1 hj).1
        exact g6 (o' + j) (by omega) u (by simpa [Nat.add_assoc] using this)
      · simp only [Builtin.firstCells]
        have hn : (us.take (m * z)).length = m * z := by rw [List.length_take]; omega
        rw [← hn]
        rw [hn]
        rcases h6 with h6 | ⟨rfl, _⟩
        · have h0 : n = 0 := by omega
          subst h0
          have : m * z = 0 := by omega
          rw [this]
          simp [loadCells, loadCellsFrom]
        · have := run_loadCells_list (P := P) w' ⟨pl.blk, pl.off + o', none⟩ (us.take (m * z)) (fun j v hj => by
            rw [add_none]
            rw [List.getElem?_take] at hj
            split at hj
            · have h7 := (hus j v hj).1
              simp only [World.cell?] at h7 ⊢
              rw [hw']
              exact h7
            · cases hj)
          rw [hn] at this
          exact this
    · cases h2

/-- What is appended: its cells, on both sides. -/
structure Src (ρ : Mp) (w : World) (P : Program) (v : Value) (k z : Nat) (xs : List AVal) (us : List Value) : Prop where
  rel : VRels ρ noL xs us
  len : us.length = k * z
  lenOf : (Builtin.lenOf v).run P w = .ok k w
  first : (Builtin.firstCells z k v).run P w = .ok us.toArray w

theorem append_some {b b' : Option Nat} {o' n z bytes k o2 n2 : Nat} {xs : List AVal} {σ' : Heap} (h : σ.append b o' n z bytes xs k = some ((b', o2, n2), σ')) :
    (k = 0 ∧ b = b' ∧ o' = o2 ∧ n = n2 ∧ σ = σ') ∨
    (0 < k ∧ (n + k) * bytes ≤ 70368744177664 ∧ n + k ≤ 70368744177664 ∧ xs.length = k * z ∧ b' = some σ.length ∧ o2 = 0 ∧
      ((b = none ∧ k = n2 ∧ σ' = σ ++ [.row xs .rw]) ∨
       ∃ b0 cs, b = some b0 ∧ σ[b0]? = some (.row cs .rw) ∧ o' + n * z ≤ cs.length ∧ n2 = n + k ∧ σ' = σ.set b0 (.row [] .dead) ++ [.row ((cs.drop o').take (n * z) ++ xs) .rw])) := by
  unfold Heap.append at h
  split at h
  · rename_i h0
    simp only [Option.some.injEq, Prod.mk.injEq] at h
    obtain ⟨⟨h1, h2, h3⟩, h4⟩ := h
    exact .inl ⟨h0, h1, h2, h3, h4⟩
  · rename_i h0
    split at h
    · rename_i hc
      split at h
      · simp only [Option.some.injEq, Prod.mk.injEq] at h
        obtain ⟨⟨h1, h2, h3⟩, h4⟩ := h
        exact .inr ⟨by omega, hc.1, hc.2.1, hc.2.2, h1.symm, h2.symm, .inl ⟨rfl, h3, h4.symm⟩⟩
      · rename_i b0
        split at h
        · rename_i cs hb
          split at h
          · rename_i hl
            simp only [Option.some.injEq, Prod.mk.injEq] at h
            obtain ⟨⟨h1, h2, h3⟩, h4⟩ := h
            exact .inr ⟨by omega, hc.1, hc.2.1, hc.2.2, h1.symm, h2.symm, .inr ⟨b0, cs, rfl, hb, hl, h3.symm, h4.symm⟩⟩
          · cases h
        · cases h
    · cases h

theorem drew_rel {ρ : Mp} {w : World} (h : HRel ρ σ w) : HRel ρ σ w.drew := ⟨fun b pl hb => let ⟨x, hx, hB⟩ := h.blk b pl hb; ⟨x, hx, hB.mono (fun _ _ h => h) (fun _ => rfl)⟩, h.dis⟩
theorem drew_lrel {ρ : Mp} {lm : Lp} {w : World} (h : LRel ρ lm l σ w) : LRel ρ lm l σ w.drew := ⟨fun t k hk => let ⟨h1, h2⟩ := h.loc t k hk; ⟨h1, h2.mono (fun _ _ h => h) rfl⟩, h.inj, h.apart⟩
theorem drew_step (ρ : Mp) (lm : Lp) (l : Locs) (σ : Heap) (w : World) : Step ρ lm l σ w ρ lm l σ w.drew :=
  ⟨rfl, rfl, rfl, Nat.le_refl _, Nat.le_refl _, fun _ _ h => h, fun _ h h' => absurd h h', fun _ _ _ _ => rfl,
    fun b pl x h hx hr => .inr ⟨b, pl, x, h, hx, hr, rfl⟩, fun _ _ h _ => h, fun _ _ h _ => h, fun t _ h h2 => .inr ⟨t, h, h2⟩⟩

theorem choose_cap (w : World) (need old : Nat) (e : TypeId) (hn : need ≤ 70368744177664) :
    need ≤ (Question.appendCap need old e).cut (w.tape w.drawn (.appendCap need old e)) ∧ (Question.appendCap need old e).cut (w.tape w.drawn (.appendCap need old e)) ≤ 9223372036854775807 := by
  constructor
  · simp [Question.cut]
  · simp only [Question.cut]
    have : w.tape w.drawn (Question.appendCap need old e) % (2 ^ 63 - need) < 2 ^ 63 - need := Nat.mod_lt _ (by omega)
    omega

/-- Room behind the slice. -/
theorem run_append_room {t xt et rt : TypeId} {dx : TypeDesc} (ht : P.underlying t = some (.slice et)) (hxt : P.underlying xt = some dx) (hd : (∃ e', dx = .slice e') ∨ dx = .string) {z n k cap : Nat} {a0 : Option Addr} {x : Value} {us : List Value} {w w' : World}
    (hz : (sizeOf et).run P w = .ok z w) (hl : (Builtin.lenOf x).run P w = .ok k w) (hf : (Builtin.firstCells z k x).run P w = .ok us.toArray w) (hcap : n + k ≤ cap)
    (hs : (match a0 with | some a => storeCells (a.add (n * z)) us | none => pure () : Sem Unit).run P w = .ok () w') :
    (Builtin.append_ #[t, xt] rt #[.slice a0 n cap, x]).run P w = .ok (.slice a0 (n + k) cap) w' := by
  rcases hd with ⟨e', rfl⟩ | rfl
  · cases a0 <;> simp only [] at hs <;>
      simp [Builtin.append_, run_underlying ht, run_underlying hxt, hz, hl, hf, hcap] <;> simp_all
  · cases a0 <;> simp only [] at hs <;>
      simp [Builtin.append_, run_underlying ht, run_underlying hxt, hz, hl, hf, hcap] <;> simp_all

/-- No room: a new row. -/
theorem run_append_grow {t xt et rt : TypeId} {dx : TypeDesc} (ht : P.underlying t = some (.slice et)) (hxt : P.underlying xt = some dx) (hd : (∃ e', dx = .slice e') ∨ dx = .string) {ie : TI} {inf : TypeInfo} {d : TypeDesc} {zv : Value} (ti : TIs P T et ie inf d zv)
    {n k cap : Nat} {a0 : Option Addr} {x : Value} {us os : List Value} {w : World}
    (hl : (Builtin.lenOf x).run P w = .ok k w) (hf : ∀ w' : World, w'.heap = w.heap → (Builtin.firstCells ie.size k x).run P w' = .ok us.toArray w') (hcap : cap < n + k)
    (ho : ∀ w' : World, w'.heap = w.heap → (Builtin.firstCells ie.size n (.slice a0 n cap)).run P w' = .ok os.toArray w') (hb : (n + k) * ie.bytes ≤ 70368744177664) (hn : n + k ≤ 70368744177664) :
    ∃ nc, n + k ≤ nc ∧ nc ≤ 9223372036854775807 ∧ (Builtin.append_ #[t, xt] rt #[.slice a0 n cap, x]).run P w =
      .ok (.slice (some ⟨w.heap.size, 0, none⟩) (n + k) nc) (w.drew.alloc (.cells (os.toArray ++ (us.toArray ++ Builtin.zeroCells zv.cells (nc - (n + k)))) et)) := by
  obtain ⟨c1, c2⟩ := choose_cap w (n + k) cap et hn
  refine ⟨_, c1, c2, ?_⟩
  have e63 : IntKind.i64.max = 9223372036854775807 := by decide
  have hfit := growslice_fits hcap (bytes := ie.bytes) (by omega)
  have hbb : inf.bytes = ie.bytes := ti.bytes
  have hcap' : ¬ n + k ≤ cap := by omega
  have hbig : ¬ (9223372036854775807 : Int) < (n : Int) + (k : Int) := by omega
  have hfit' : ¬ 281474976710656 < Builtin.nextslicecap (n + k) cap * ie.bytes := by omega
  have f1 := hf w.drew rfl
  have o1 := ho w.drew rfl
  have zv1 := ti.run_zeroValue w.drew
  rcases hd with ⟨e', rfl⟩ | rfl
  · simp [Builtin.append_, run_underlying ht, run_underlying hxt, ti.run_sizeOf, hl, hcap', ti.run_typeInfo, hbb, hbig, hfit', Question.forced, o1, f1, zv1, newRow]
  · simp [Builtin.append_, run_underlying ht, run_underlying hxt, ti.run_sizeOf, hl, hcap', ti.run_typeInfo, hbb, hbig, hfit', Question.forced, o1, f1, zv1, newRow]

theorem ones3 {os us : List Value} {z : Array Value} {n : Nat} (ho : ∀ u ∈ os, u.oneCell' = true) (hu : ∀ u ∈ us, u.oneCell' = true) (hz : Ones z) : Ones (os.toArray ++ (us.toArray ++ Builtin.zeroCells z n)) := by
  intro v hv
  simp only [Array.toList_append, List.mem_append] at hv
  rcases hv with hv | hv | hv
  · exact ho v hv
  · exact hu v hv
  · simp only [Builtin.zeroCells, Array.toList_map, List.mem_map] at hv
    obtain ⟨j, hj, rfl⟩ := hv
    have hj' : j < n * z.size := by simpa using hj
    have hlt : j % z.size < z.size := Nat.mod_lt _ (Nat.pos_of_ne_zero fun e => by rw [e] at hj'; simp at hj')
    rw [getElem!_pos z _ hlt]
    exact hz _ (by simp)

theorem append_run (ok : TabOK P T) {t xt et : TypeId} {i xi ie : TI} (ht : T.ti t = some i) (hk : i.kind = .slice et) (hie : T.ti et = some ie) (hxi : T.ti xt = some xi) (hx : (∃ e', xi.kind = .slice e') ∨ (xi.shape = [.str] ∧ xi.agg = false))
    {ρ : Mp} {lm : Lp} {w : World} (hH : HRel ρ σ w) (hL : LRel ρ lm l σ w) {b b' : Option Nat} {o' n k o2 n2 z : Nat} {xs : List AVal} {us : List Value} {σ' : Heap} {s x : Value} (hs : VRel ρ lm (.slice b o' n z) s) (hz : z = ie.size ∨ b = none)
    (rel : VRels ρ noL xs us) (ul : us.length = k * ie.size) (hl : (Builtin.lenOf x).run P w = .ok k w) (hf : ∀ w' : World, w'.heap = w.heap → (Builtin.firstCells ie.size k x).run P w' = .ok us.toArray w')
    (h1 : ∀ u ∈ us, u.oneCell' = true) (h : σ.append b o' n ie.size ie.bytes xs k = some ((b', o2, n2), σ')) (rt : TypeId) :
    ∃ cv w' ρ', (Builtin.append_ #[t, xt] rt #[s, x]).run P w = .ok cv w' ∧ HRel ρ' σ' w' ∧ LRel ρ' lm l σ' w' ∧ VRel ρ' lm (.slice b' o2 n2 ie.size) cv ∧ Step ρ lm l σ w ρ' lm l σ' w' := by
  obtain ⟨inf, d, zz, ti⟩ := ok.tis ht
  obtain ⟨rfl, _, _⟩ := ti.slice hk
  obtain ⟨inf', d', z', ti'⟩ := ok.tis hie
  obtain ⟨infx, dx, zx, tix⟩ := ok.tis hxi
  have hd : (∃ e', dx = .slice e') ∨ dx = .string := by
    rcases hx with ⟨e', he⟩ | ⟨he, ha⟩
    · exact .inl ⟨e', (tix.slice he).1⟩
    · exact .inr (tix.str he ha)
  have hzl : ie.zeros.length = ie.size := by simp [TI.zeros, TI.size]
  have hzs : z'.cells.size = ie.size := by have := (ti'.rel ρ noL).length; simp at this; omega
  rcases append_some h with ⟨rfl, e1, e2, e3, e4⟩ | ⟨hk0, hb1, hb2, hxl, rfl, rfl, hcase⟩
  · -- nothing is appended
    subst e1; subst e2; subst e3; subst e4
    have hu0 : us = [] := List.eq_nil_of_length_eq_zero (by rw [ul]; simp)
    subst hu0
    obtain ⟨a0, cap0, rfl, hcap⟩ : ∃ a cap, s = .slice a n cap ∧ n ≤ cap := by
      cases b with
      | none => simp only [VRel] at hs; obtain ⟨_, rfl, rfl⟩ := hs; exact ⟨none, 0, rfl, Nat.le_refl _⟩
      | some b => simp only [VRel] at hs; obtain ⟨pl, a, cap, _, rfl, h4, _⟩ := hs; exact ⟨_, _, rfl, h4⟩
    have := run_append_room (P := P) (rt := rt) (n := n) (cap := cap0) (a0 := a0) (w' := w) ti.und tix.und hd (ti'.run_sizeOf w) hl (hf w rfl) (by omega) (by cases a0 <;> simp [storeCells])
    refine ⟨_, w, ρ, this, hH, hL, ?_, Step.refl ..⟩
    rw [Nat.add_zero]
    rcases hz with rfl | rfl
    · exact hs
    · simpa only [VRel] using hs
  · rcases hcase with ⟨rfl, e1, rfl⟩ | ⟨b0, cs, rfl, hcell, hle, rfl, rfl⟩
    · -- onto nil
      subst e1
      simp only [VRel] at hs
      obtain ⟨rfl, rfl, rfl⟩ := hs
      obtain ⟨nc, c1, c2, run⟩ := run_append_grow (P := P) (rt := rt) (n := 0) (cap := 0) (a0 := none) (os := []) (w := w) ti.und tix.und hd ti' hl hf (by omega) (fun w' _ => by simp [Builtin.firstCells]) hb1 hb2
      have hl' := rel.length
      have hsize : (#[] ++ (us.toArray ++ Builtin.zeroCells z'.cells (nc - (0 + k)))).size = nc * ie.size := by
        simp [Builtin.zeroCells, ul, hzs]
        rw [← Nat.add_mul]; congr 1; omega
      obtain ⟨q1, q2, q3⟩ := new_row (drew_rel hH) (drew_lrel hL) xs ([].toArray ++ (us.toArray ++ Builtin.zeroCells z'.cells (nc - (0 + k)))) et (by
        simp only [Array.empty_append, Array.toList_append]
        rw [← hl', List.take_left]
        exact rel) (by rw [hsize]; rw [hxl]; exact Nat.mul_le_mul_right _ (by omega)) (ones3 (by simp) h1 ti'.ones)
      refine ⟨_, _, _, run, q1, q2, ?_, (drew_step ρ lm l σ w).trans q3⟩
      simp only [VRel]
      refine ⟨_, _, nc, upd_same _ _ _, by rw [Nat.zero_add]; rfl, by omega, c2, .inr ⟨rfl, ?_⟩⟩
      rw [hsize]
      show 0 + 0 + nc * ie.size ≤ nc * ie.size
      omega
    · simp only [VRel] at hs
      obtain ⟨pl, a, cap, hp, rfl, h4, h5, h6⟩ := hs
      obtain rfl : z = ie.size := hz.resolve_right (by simp)
      obtain ⟨x0, hx0, hB⟩ := hH.blk b0 pl hp
      rw [hcell] at hx0
      injection hx0 with hx0
      subst hx0
      obtain ⟨c, ty, fr, g1, g2, g3, g4, g5, g6⟩ := hB
      have g5 := g5 rfl
      have hl' := rel.length
      by_cases hroom : n + k ≤ cap
      · -- in place
        rcases h6 with h6 | ⟨rfl, h6⟩
        · omega
        have hmul : (n + k) * ie.size ≤ cap * ie.size := Nat.mul_le_mul_right _ hroom
        rw [Nat.add_mul] at hmul
        obtain ⟨c', hw⟩ := setCells_wrote us w pl.blk (pl.off + o' + n * ie.size) c ty fr g1 (by rw [ul]; omega)
        have hst := run_store_block (P := P) w pl.blk (pl.off + o' + n * ie.size) us c ty fr g1 (by rw [ul]; omega) g5 h1
        have run := run_append_room (P := P) (rt := rt) (n := n) (cap := cap) (a0 := some ⟨pl.blk, pl.off + o', none⟩) ti.und tix.und hd (ti'.run_sizeOf w) hl (hf w rfl) hroom (by simp only [add_none]; exact hst)
        obtain ⟨q1, q2, q3⟩ := regrow hH hL b0 pl ⟨pl.blk, pl.off + o', pl.size⟩ _ (.row ((cs.drop o').take (n * ie.size) ++ xs) .rw) hp hcell rfl rfl (by
          refine ⟨c', ty, fr, hw.heap, hw.size.trans g2, ?_, fun j y hy => ?_, fun _ => by rw [hw.size]; exact g5, hw.ones g6 h1⟩
          · simp only [List.length_append, List.length_take, List.length_drop, hw.size]
            rw [hxl]; omega
          · rw [hw.at_]
            rcases Nat.lt_or_ge j (n * ie.size) with hj | hj
            · rw [List.getElem?_append_left (by rw [List.length_take, List.length_drop]; omega), List.getElem?_take, if_pos hj, List.getElem?_drop] at hy
              rw [if_neg (by simp only; omega)]
              have := g4 _ y hy
              simpa [Nat.add_assoc] using this
            · have hlen : ((cs.drop o').take (n * ie.size)).length = n * ie.size := by rw [List.length_take, List.length_drop]; omega
              rw [List.getElem?_append_right (by rw [hlen]; exact hj), hlen] at hy
              have hjl := (List.getElem?_eq_some_iff.1 hy).1
              rw [if_pos (by simp only; omega)]
              obtain ⟨v, e1, r1⟩ := rel.get _ y hy
              refine ⟨v, ?_, r1⟩
              show us[pl.off + o' + j - (pl.off + o' + n * ie.size)]? = some v
              rw [show pl.off + o' + j - (pl.off + o' + n * ie.size) = j - n * ie.size by omega]
              exact e1) rfl hw.os hw.tape hw.output hw.hsize hw.old
        refine ⟨_, _, _, run, q1, q2, ?_, q3⟩
        simp only [VRel]
        exact ⟨_, _, cap, upd_same _ _ _, rfl, hroom, h5, .inr ⟨by simp, by simp only [Nat.add_zero]; exact h6⟩⟩
      · -- a new row
        have hrow : σ.row? b0 = some cs := by simp [Heap.row?, hcell]
        have hread : σ.read (some b0) o' n ie.size = some ((cs.drop o').take (n * ie.size)) := by simp [Heap.read, hrow, hle]
        obtain ⟨os, o1, o2, oo, o3⟩ := read_rel (P := P) (lm := lm) hH hread (v := .slice (some a) n cap) (by simp only [VRel]; exact ⟨pl, a, cap, hp, rfl, h4, h5, h6⟩)
        rw [if_neg (by simp)] at o2
        obtain ⟨nc, c1, c2, run⟩ := run_append_grow (P := P) (rt := rt) (n := n) (cap := cap) (a0 := some a) (os := os) (w := w) ti.und tix.und hd ti' hl hf (by omega) (fun w' hw' => by
          have q1 := o3 n (by omega) w' hw'
          rw [List.take_of_length_le (by omega)] at q1
          exact q1) hb1 hb2
        have hsize : (os.toArray ++ (us.toArray ++ Builtin.zeroCells z'.cells (nc - (n + k)))).size = nc * ie.size := by
          simp [Builtin.zeroCells, ul, hzs, o2]
          rw [← Nat.add_mul, ← Nat.add_mul]; congr 1; omega
        obtain ⟨r1, r2, r3⟩ := kill_block (drew_rel hH) (drew_lrel hL) b0 pl _ hp hcell rfl
        have hl0 := o1.length
        obtain ⟨q1, q2, q3⟩ := new_row r1 r2 ((cs.drop o').take (n * ie.size) ++ xs) (os.toArray ++ (us.toArray ++ Builtin.zeroCells z'.cells (nc - (n + k)))) et (by
          have : ((cs.drop o').take (n * ie.size) ++ xs).length = (os ++ us).length := by simp only [List.length_append]; omega
          rw [this]
          simp only [Array.toList_append]
          rw [← List.append_assoc, List.take_left]
          exact o1.append rel) (by
          rw [hsize]
          have : ((cs.drop o').take (n * ie.size) ++ xs).length = (n + k) * ie.size := by simp only [List.length_append]; rw [Nat.add_mul]; omega
          rw [this]
          exact Nat.mul_le_mul_right _ c1) (ones3 oo h1 ti'.ones)
        rw [List.length_set] at q1 q2 q3
        refine ⟨_, _, _, run, q1, q2, ?_, ((drew_step ρ lm l σ w).trans r3).trans q3⟩
        simp only [VRel]
        refine ⟨_, _, nc, upd_same _ _ _, rfl, c1, c2, .inr ⟨rfl, ?_⟩⟩
        rw [hsize]
        show 0 + 0 + nc * ie.size ≤ nc * ie.size
        omega

end
end Go.Abs
