/-
The sorted keys of a map of whole numbers.
-/
import Derived.Test.YtnoplfndpemmpaaGreatDoorMConY
import Derived.Test.YtnoplfndpemmpaaGreatDoorMAd
import Derived.Test.YtnoplfndpemmpaaGreatDoorShE
import Derived.Lib.SlKeysI
namespace Go.Abs
open Go Go.RowKit
/-- A call that lays a new block beside what was there. -/
theorem below_new {ρ : Mp} {σ : Heap} {w w' : World} (hH : HRel ρ σ w) (hb : Below w.heap.size w w') {g n : Nat} (hg : w.heap.size ≤ g) {x : Blk} {t : TypeId} (hx : BRel ρ ⟨g, 0, n, t⟩ w' x) (hro : x.isRO = false) (hty : x.isTys = false) :
    HRel (upd ρ σ.length ⟨g, 0, n, t⟩) (σ ++ [x]) w' ∧ Step ρ noL [] σ w (upd ρ σ.length ⟨g, 0, n, t⟩) noL [] (σ ++ [x]) w' := by
  have hn := hH.none_of_len (Nat.le_refl _)
  have hext := upd_ext (⟨g, 0, n, t⟩ : Pl) hn
  have hlt : ∀ b pl y, ρ b = some pl → σ[b]? = some y → y.live = true → pl.blk < w.heap.size := fun b pl y hb' hy hl => by
    obtain ⟨z, hz, hB⟩ := hH.blk b pl hb'
    rw [hy] at hz
    injection hz with hz
    subst hz
    exact hB.lt hl
  refine ⟨⟨fun b pl hb' => ?_, fun b b' pl pl' y y' hb' hb2 hy hy' hne hl hl' hr => ?_, (hH.tys.mono hext).snoc hty⟩, hb.os, hb.tape, hb.output, hb.size, by simp, hext, fun b h0 h1 => ?_, fun k hk _ _ => hb.block k hk, fun b pl y hb' hy hr => ?_, fun b y hy hr => ?_, fun b y hy hr => ?_, fun t k h => by cases h⟩
  · by_cases e : b = σ.length
    · subst e
      rw [upd_same] at hb'
      injection hb' with hb'
      subst hb'
      exact ⟨x, by simp, BRel.mono hext (fun _ => rfl) hx⟩
    · rw [upd_ne _ _ e] at hb'
      obtain ⟨y, hy, hB⟩ := hH.blk b pl hb'
      exact ⟨y, by rw [getElem?_snoc, if_neg e]; exact hy, BRel.mono hext (fun hl => hb.block _ (hB.lt hl)) hB⟩
  · rw [getElem?_snoc] at hy hy'
    by_cases e : b = σ.length
    · subst e
      rw [upd_same] at hb'
      injection hb' with hb'
      subst hb'
      rw [if_neg (Ne.symm hne)] at hy'
      rw [upd_ne _ _ (Ne.symm hne)] at hb2
      have := hlt b' pl' y' hb2 hy' hl'
      simp only; omega
    · rw [if_neg e] at hy
      rw [upd_ne _ _ e] at hb'
      have h1 := hlt b pl y hb' hy hl
      by_cases e' : b' = σ.length
      · subst e'
        rw [upd_same] at hb2
        injection hb2 with hb2
        subst hb2
        simp only; omega
      · rw [if_neg e'] at hy'
        rw [upd_ne _ _ e'] at hb2
        exact hH.dis b b' pl pl' y y' hb' hb2 hy hy' hne hl hl' hr
  · by_cases e : b = σ.length
    · omega
    · rw [upd_ne _ _ e] at h1; exact absurd h0 h1
  · by_cases e : b = σ.length
    · subst e
      rw [upd_same] at hb'
      injection hb' with hb'
      subst hb'
      exact .inl hg
    · rw [upd_ne _ _ e] at hb'
      rw [getElem?_snoc, if_neg e] at hy
      exact .inr ⟨b, pl, y, hb', hy, hr, rfl⟩
  · rw [List.getElem?_append_left (List.getElem?_eq_some_iff.1 hy).1]; exact hy
  · rw [getElem?_snoc] at hy
    by_cases e : b = σ.length
    · rw [if_pos e] at hy
      injection hy with hy
      subst hy
      rw [hro] at hr; cases hr
    · rw [if_neg e] at hy; exact hy
def keysI : List (AVal × AVal) → Option (List Int)
  | [] => some []
  | (.int .i64 n, _) :: r => match (Lit.int .i64 n).wf with
    | true => match keysI r with
      | some ns => some (n :: ns)
      | none => none
    | false => none
  | _ => none
theorem keysI_get : ∀ {es : List (AVal × AVal)} {ns : List Int}, keysI es = some ns → es.length = ns.length ∧ ∀ (j : Nat) (n : Int), ns[j]? = some n → ∃ v, es[j]? = some (.int .i64 n, v) ∧ (Lit.int .i64 n).wf = true
  | [], ns, h => by
    simp only [keysI, Option.some.injEq] at h
    subst h
    exact ⟨rfl, fun j n hj => by simp at hj⟩
  | e :: r, ns, h => by
    unfold keysI at h
    split at h
    · rename_i h'; cases h'
    · rename_i n v r' e'
      injection e' with e1 e2
      subst e1; subst e2
      split at h
      · rename_i hw
        split at h
        · rename_i ms hm
          injection h with h
          subst h
          obtain ⟨h1, h2⟩ := keysI_get hm
          refine ⟨by simp [h1], fun j k hj => ?_⟩
          cases j with
          | zero => simp at hj; subst hj; exact ⟨v, rfl, hw⟩
          | succ j => simp at hj; simpa using h2 j k hj
        · cases h
      · cases h
    · cases h
def insI (n : Int) : List Int → List Int
  | [] => [n]
  | x :: r => match decide (n ≤ x) with
    | true => n :: x :: r
    | false => x :: insI n r
def sortI : List Int → List Int
  | [] => []
  | x :: r => insI x (sortI r)
theorem insI_perm (n : Int) : ∀ l, (insI n l).Perm (n :: l)
  | [] => .refl _
  | x :: r => by
    unfold insI
    split
    · exact .refl _
    · exact ((insI_perm n r).cons x).trans (.swap n x r)
theorem sortI_perm : ∀ l, (sortI l).Perm l
  | [] => .refl _
  | x :: r => (insI_perm x (sortI r)).trans ((sortI_perm r).cons x)
theorem insI_sorted (n : Int) : ∀ l : List Int, l.Pairwise (· ≤ ·) → (insI n l).Pairwise (· ≤ ·)
  | [], _ => by simp [insI]
  | x :: r, h => by
    unfold insI
    rw [List.pairwise_cons] at h
    split
    · rename_i e
      rw [decide_eq_true_eq] at e
      refine List.pairwise_cons.2 ⟨fun y hy => ?_, List.pairwise_cons.2 h⟩
      rcases List.mem_cons.1 hy with rfl | hy
      · exact e
      · exact Int.le_trans e (h.1 y hy)
    · rename_i e
      rw [decide_eq_false_iff_not] at e
      refine List.pairwise_cons.2 ⟨fun y hy => ?_, insI_sorted n r h.2⟩
      rcases List.mem_cons.1 ((insI_perm n r).mem_iff.1 hy) with rfl | hy
      · omega
      · exact h.1 y hy
theorem sortI_sorted : ∀ l, (sortI l).Pairwise (· ≤ ·)
  | [] => .nil
  | x :: r => insI_sorted x _ (sortI_sorted r)
theorem sortI_eq {l ss : List Int} (h : ss.Perm l) : ss.mergeSort leI = sortI l := by
  refine List.Perm.eq_of_pairwise (le := fun a b => leI a b = true) (fun a b _ _ h1 h2 => ?_) (List.pairwise_mergeSort (fun a b c h1 h2 => ?_) (fun a b => ?_) ss) ?_ (((List.mergeSort_perm ss leI).trans h).trans (sortI_perm l).symm)
  · simp only [leI, decide_eq_true_eq] at h1 h2
    exact Int.le_antisymm h1 h2
  · simp only [leI, decide_eq_true_eq] at *
    exact Int.le_trans h1 h2
  · simp only [leI, Bool.or_eq_true, decide_eq_true_eq]
    exact Int.le_total a b
  · exact (sortI_sorted l).imp (by simp [leI])
open Go.Maps Go.Sort in
open Go.WideElems (Fit) in
/-- A map of whole numbers in memory, told to the kit. -/
theorem map_ints {P : Program} {k : TypeId} (hk : P.underlying k = some (.int .i64)) {ρ : Mp} {σ : Heap} {w : World} (hH : HRel ρ σ w) {b : Nat} {pl : Pl} (hp : ρ b = some pl) {es : List (AVal × AVal)} (he : σ.entries (some b) = some es) {ns : List Int} (hn : keysI es = some ns) (hs : ns.length ≤ 1000000) :
    ∃ D0 : DataW Unit, w.ownsMap P k (fun _ => some (.nil, [])) pl.blk ns.length D0 ∧ Maps.size D0 = ns.length ∧ (intKeys D0).Perm ns := by
  have hv : VRel ρ noL (.map (some b)) (.map (some pl.blk)) := by simp only [VRel]; exact ⟨pl, hp, rfl⟩
  rcases entries_rel hH hv he with ⟨hn', _⟩ | ⟨b', pl', m', ms, cl, hb', hp', _, _, _, hw, hst, hM⟩
  · cases hn'
  injection hb' with hb'
  subst hb'
  rw [hp] at hp'
  injection hp' with hp'
  subst hp'
  obtain ⟨hl, hget⟩ := keysI_get hn
  have hsz : ms.size = ns.length := by have := hM.1; simp at this; omega
  have hrd : ∀ (j : Nat) (n : Int), ns[j]? = some n → ∃ me, ms[j]? = some me ∧ WideElems.rd (H := Unit) P k (fun _ => some (.nil, [])) me = some (.int .i64 n, .nil) := fun j n hj => by
    obtain ⟨v, e1, e2⟩ := hget j n hj
    obtain ⟨me, f1, f2, _⟩ := hM.2 j _ _ e1
    simp only [VRel] at f2
    refine ⟨me, by simpa using f1, ?_⟩
    unfold WideElems.rd
    rw [f2]
    simp only [keyOf, hk, mapKey]
    simp [e2]
  have hL : ms.toList.map (WideElems.rg (H := Unit) P k (fun _ => some (.nil, []))) = ns.map fun n => (Lit.int .i64 n, DataW.nil) := by
    apply List.ext_getElem?
    intro j
    simp only [List.getElem?_map, Array.getElem?_toList]
    cases hf : ns[j]? with
    | none =>
      rw [Array.getElem?_eq_none (by rw [hsz]; exact List.getElem?_eq_none_iff.1 hf)]
      rfl
    | some f =>
      obtain ⟨me, e1, e2⟩ := hrd j f hf
      rw [e1]
      simp only [Option.map_some, WideElems.rg, e2, Option.getD_some]
  have hF : Fit (H := Unit) P k (fun _ => some (.nil, [])) ms cl := ⟨by unfold maxLen; omega, hst, fun x hx => by
    obtain ⟨j, hj⟩ := List.mem_iff_getElem?.1 hx
    rw [Array.getElem?_toList] at hj
    have hjl : j < ns.length := by rw [← hsz]; exact (Array.getElem?_eq_some_iff.1 hj).1
    obtain ⟨me, e1, e2⟩ := hrd j _ (List.getElem?_eq_getElem hjl)
    rw [hj] at e1
    injection e1 with e1
    subst e1
    exact ⟨_, e2⟩⟩
  refine ⟨_, ⟨ms, cl, hw, hF, by omega, rfl⟩, ?_, ?_⟩
  · rw [hL]
    show List.length _ = _
    rw [(WideShapes.sorted_perm _).length_eq, List.length_map]
  · rw [hL]
    show ((_ : List (Lit × DataW Unit)).map fun p => intOf p.1).Perm _
    refine ((WideShapes.sorted_perm _).map _).trans ?_
    rw [List.map_map]
    exact .of_eq (by simp [Function.comp_def, intOf])
end Go.Abs
namespace Go.Abs
open Go Go.RowKit Go.Maps Go.Sort
variable {P : Program} {T : Tab}
/-- maps.Keys: a closure over a new block, of which it is told that it lies alone. -/
def gKeys (g M : Nat) : ∀ R : Type, CallF1 R := fun _ args σ K => match args with
  | [.map mb] => K (.func (.func g) [.ptr (some (σ.length, 0))]) (σ ++ [.row [.map mb] .rw] ++ [.tys σ.length M 1])
  | _ => none
theorem noL_rel (ρ : Mp) (σ : Heap) (w : World) : LRel ρ noL [] σ w := ⟨fun _ _ h => (by cases h), fun _ _ _ h => (by cases h), fun _ _ _ _ _ h => (by cases h)⟩
theorem gKeys_ok {kf g M : Nat} (hk : ∀ (mb : Option Nat) (W : World), CallsIn Fence.wide 5 P kf #[.map mb] W fun e w' => e = .returned (.func (.func g) #[] #[.pointer (some ⟨W.heap.size, 0, none⟩)]) ∧ w' = W.alloc (.cells #[.map mb] M))
    (R : Type) (xs : List AVal) (σ : Heap) (K : AVal → Heap → Option R) (r : R) (h : gKeys g M R xs σ K = some r) : ∃ v σ', K v σ' = some r ∧ CallOK P T kf xs σ v σ' := by
  unfold gKeys at h
  split at h
  · rename_i mb
    refine ⟨_, _, h, fun ρ ws w hH hG hw => ?_⟩
    obtain ⟨v, vs, rfl, hv, hvs⟩ := by simpa only [VRels] using hw
    subst hvs
    obtain ⟨mb', rfl⟩ : ∃ mb', v = .map mb' := by
      cases mb with
      | none => simp only [VRel] at hv; exact ⟨_, hv⟩
      | some b => simp only [VRel] at hv; obtain ⟨pl, _, hv⟩ := hv; exact ⟨_, hv⟩
    refine (callsIn_wide.1 (hk mb' w)).mono fun e w' ⟨he, hw'⟩ => ?_
    subst hw'
    have hb : Below w.heap.size w (w.alloc (.cells #[.map mb'] M)) := (Below.refl _ w).alloc (Nat.le_refl _) _
    have hn := hH.none_of_len (Nat.le_refl _)
    have hx : BRel ρ ⟨w.heap.size, 0, 1, M⟩ (w.alloc (.cells #[.map mb'] M)) (.row [.map mb] .rw) := by
      refine ⟨#[.map mb'], M, (0, 0), by show (w.heap.push _)[w.heap.size]? = _; simp, rfl, by simp, fun j x hj => ?_, fun _ => unfrozen0 _, fun j hj u hu => ?_, rfl⟩
      · cases j with
        | zero => simp at hj; subst hj; exact ⟨_, rfl, hv⟩
        | succ j => simp at hj
      · cases j with
        | zero => simp at hu; subst hu; rfl
        | succ j => simp at hj
    obtain ⟨h1, h2⟩ := below_new hH hb (Nat.le_refl _) hx rfl rfl
    obtain ⟨g1, _, g3⟩ := new_ghost h1 (noL_rel _ _ _) (b := σ.length) (q := ⟨w.heap.size, 0, 1, M⟩) (t := M) (sz := 1) (upd_same _ _ _) rfl rfl (.inr rfl)
    refine ⟨_, _, he, g1, ?_, h2.trans g3⟩
    simp only [VRel, VRels]
    exact ⟨[.pointer (some ⟨w.heap.size, 0, none⟩)], rfl, _, [], rfl, ⟨_, upd_same _ _ _, rfl⟩, rfl⟩
  · cases h
/-- slices.Sorted of what that hands back. -/
def gSorted (gs : List Nat) : ∀ R : Type, CallF1 R := fun _ args σ K => match args with
  | [.func (.func g) [.ptr (some (b, 0))]] => match gs.contains g with
    | true => match σ[b + 1]? with
      | some (.tys b' _ 1) => match decide (b' = b) with
        | true => match map? (σ.cell? b 0) with
          | some (some mb) => match σ.entries (some mb) with
            | some es => match keysI es with
              | some ns => match Nat.ble ns.length 1000000 with
                | true => K (.slice (fresh eI64 σ ns.isEmpty (sortI ns)).1.b (fresh eI64 σ ns.isEmpty (sortI ns)).1.o (fresh eI64 σ ns.isEmpty (sortI ns)).1.n 1) (fresh eI64 σ ns.isEmpty (sortI ns)).2
                | false => none
              | none => none
            | none => none
          | _ => none
        | false => none
      | _ => none
    | false => none
  | _ => none
theorem sortI_length (l : List Int) : (sortI l).length = l.length := (sortI_perm l).length_eq
theorem eI64_all : ∀ xs : List Int, eI64.all xs = xs.map (AVal.int .i64)
  | [] => rfl
  | x :: r => by rw [El.all_cons, eI64_all r]; rfl
theorem gSorted_ok {sf k : Nat} {gs : List Nat} (hk : P.underlying k = some (.int .i64))
    (hs : ∀ g ∈ gs, ∀ (Bm b nn : Nat) (D0 : DataW Unit) (R : Value → Option (DataW Unit × List MemPlace)) (w : World), Bm < w.heap.size → w.cell? ⟨Bm, 0, none⟩ = some (.map (some b)) → w.ownsMap P k R b nn D0 → Maps.size D0 ≤ maxLen → Maps.size D0 * 8 ≤ 140737488355328 →
      CallsIn Fence.wide 5 P sf #[.func (.func g) #[] #[.pointer (some ⟨Bm, 0, none⟩)]] w fun e w' => ∃ (v : Value) (ss : List Int), e = .returned v ∧ ss.Perm (intKeys D0) ∧
        w'.ownsRow w.heap.size k 1 v ss.length ((ss.mergeSort (fun x y => decide (x ≤ y))).map encZ) ∧ (v = .slice none 0 0 ↔ ss = []) ∧ Below w.heap.size w w')
    (R : Type) (xs : List AVal) (σ : Heap) (K : AVal → Heap → Option R) (r : R) (h : gSorted gs R xs σ K = some r) : ∃ v σ', K v σ' = some r ∧ CallOK P T sf xs σ v σ' := by
  unfold gSorted at h
  split at h
  case h_2 => cases h
  rename_i g b
  split at h
  case h_2 => cases h
  rename_i hg
  split at h
  case h_2 => cases h
  rename_i b' t ht
  split at h
  case h_2 => cases h
  rename_i hbb
  rw [decide_eq_true_eq] at hbb
  subst hbb
  split at h
  case h_2 => cases h
  rename_i mb hm
  split at h
  case h_2 => cases h
  rename_i es he
  split at h
  case h_2 => cases h
  rename_i ns hn
  split at h
  case h_2 => cases h
  rename_i hl
  have hl := Nat.le_of_ble_eq_true hl
  refine ⟨_, _, h, fun ρ ws w hH hG hw => ?_⟩
  clear h
  obtain ⟨v, vs, rfl, hv, hvs⟩ := by simpa only [VRels] using hw
  subst hvs
  obtain ⟨us, rfl, hu⟩ := by simpa only [VRel] using hv
  obtain ⟨u, us', rfl, hu1, hu2⟩ := by simpa only [VRels] using hu
  subst hu2
  obtain ⟨pl, hp, rfl⟩ := by simpa only [VRel] using hu1
  obtain ⟨_, q, hq, _, hq0, _⟩ := hH.tys _ _ _ _ ht
  rw [hp] at hq
  injection hq with hq
  subst hq
  obtain ⟨x, hx, hB⟩ := hH.blk _ pl hp
  -- the cell of the closure's block
  have hc0 : σ.cell? b' 0 = some (.map (some mb)) := by
    cases hc : σ.cell? b' 0 with
    | none => rw [hc] at hm; cases hm
    | some y =>
      rw [hc] at hm
      cases y <;> simp [map?] at hm
      rw [hm]
  obtain ⟨cs, hr, hc1⟩ := Option.bind_eq_some_iff.1 hc0
  have hrow : ∃ m, x = .row cs m ∧ m ≠ .dead := by
    unfold Heap.row? at hr
    rw [hx] at hr
    split at hr
    · rename_i e; injection e with e; injection hr with hr; subst hr; exact ⟨_, e, by simp⟩
    · rename_i e; injection e with e; injection hr with hr; subst hr; exact ⟨_, e, by simp⟩
    · cases hr
  obtain ⟨m, rfl, hmd⟩ := hrow
  have hB' : ∃ c ty fr, w.heap[pl.blk]? = some (.cells c ty fr) ∧ ∀ j x, cs[j]? = some x → ∃ v, c[pl.off + j]? = some v ∧ VRel ρ noL x v := by
    cases m with
    | dead => exact absurd rfl hmd
    | ro => obtain ⟨c, ty, fr, h1, _, _, h4, _⟩ := hB; exact ⟨c, ty, fr, h1, h4⟩
    | rw => obtain ⟨c, ty, fr, h1, _, _, h4, _⟩ := hB; exact ⟨c, ty, fr, h1, h4⟩
  obtain ⟨c, ty, fr, h1, h4⟩ := hB'
  obtain ⟨u, hu, hur⟩ := h4 0 _ hc1
  obtain ⟨pm, hpm, rfl⟩ := by simpa only [VRel] using hur
  rw [hq0, Nat.add_zero] at hu
  obtain ⟨D0, o1, o2, o3⟩ := map_ints hk hH hpm he hn hl
  have hlt : pl.blk < w.heap.size := (Array.getElem?_eq_some_iff.1 h1).1
  have hcell : w.cell? ⟨pl.blk, 0, none⟩ = some (.map (some pm.blk)) := by
    simp only [World.cell?, h1]
    simpa using hu
  have hcall := callsIn_wide.1 (hs g (by simpa using hg) pl.blk pm.blk ns.length D0 _ w hlt hcell o1 (by rw [o2]; unfold maxLen; omega) (by rw [o2]; omega))
  rw [hq0]
  refine hcall.mono fun e w' ⟨v, ss, he, p1, p2, p3, p4⟩ => ?_
  subst he
  have hms : ss.mergeSort leI = sortI ns := sortI_eq (p1.trans o3)
  have hnames : ss.length = ns.length := (p1.trans o3).length_eq
  have p2' : w'.ownsRow w.heap.size k 1 v ns.length ((sortI ns).map encZ) := by
    rw [← hms, ← hnames]; exact p2
  cases hns : ns with
  | nil =>
    have hss : ss = [] := List.eq_nil_of_length_eq_zero (by rw [hnames, hns]; rfl)
    have hv := p3.2 hss
    subst hv
    obtain ⟨h1, h2⟩ := below_step hH p4
    exact ⟨_, ρ, rfl, h1, by simp [fresh, VRel], h2⟩
  | cons n0 r0 =>
    rw [← hns]
    have hne : ns ≠ [] := by rw [hns]; simp
    have hni : ns.isEmpty = false := by rw [hns]; rfl
    rw [hni]
    obtain ⟨_, k2⟩ := p2'
    rcases k2 with ⟨hv, hz⟩ | ⟨g, cap, cur, hv, hg, hh, c1, c2, c3, c4⟩
    · exact absurd (List.eq_nil_of_length_eq_zero hz) hne
    subst hv
    rw [Nat.mul_one] at c3 c4
    have hcell : ∀ (j : Nat) (x : AVal), (eI64.all (sortI ns))[j]? = some x → ∃ u, cur[j]? = some u ∧ VRel (fun _ => none) noL x u ∧ u.oneCell' = true := fun j x hx => by
      rw [eI64_all, List.getElem?_map] at hx
      obtain ⟨l, hl, rfl⟩ := Option.map_eq_some_iff.1 hx
      have : (cur.toList.take ns.length)[j]? = some (encZ l) := by rw [c4, List.getElem?_map, hl]; rfl
      rw [List.getElem?_take] at this
      split at this
      · rw [Array.getElem?_toList] at this
        exact ⟨_, this, by simp [VRel], rfl⟩
      · cases this
    have hel : (eI64.all (sortI ns)).length = ns.length := by rw [El.all_len, sortI_length]; exact Nat.mul_one _
    have hB : BRel ρ ⟨g, 0, cur.size, k⟩ w' (.row (eI64.all (sortI ns)) .rw) := by
      refine ⟨cur, k, (0, 0), hh, rfl, by rw [hel]; simp only; omega, fun j x hx => ?_, fun _ => unfrozen0 _, fun j hj v hv => ?_, rfl⟩
      · obtain ⟨u, h1, h2, _⟩ := hcell j x hx
        exact ⟨u, by simpa using h1, h2.mono (fun _ _ h => by cases h) (fun _ _ h => h)⟩
      · obtain ⟨u, h1, _, h3⟩ := hcell j _ (List.getElem?_eq_getElem hj)
        simp only [Nat.zero_add] at hv
        rw [h1] at hv
        injection hv with hv
        subst hv
        exact h3
    obtain ⟨h1, h2⟩ := below_new hH p4 hg hB rfl rfl
    refine ⟨.slice (some ⟨g, 0, none⟩) ns.length cap, upd ρ σ.length ⟨g, 0, cur.size, k⟩, rfl, h1, ?_, h2⟩
    show VRel _ noL (.slice (some σ.length) 0 (sortI ns).length 1) _
    simp only [VRel]
    rw [sortI_length]
    exact ⟨_, _, cap, upd_same _ _ _, rfl, c1, by unfold maxLen at c2; omega, .inr ⟨by simp, by simp only; omega⟩⟩
end Go.Abs
