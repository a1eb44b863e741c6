/-
Calls in memory; kind, short, keeps, right, do.
What is done to a store, plain; keeps, do.
What a call does to a store, plain; a run of calls.
fit: the store does what it should.
-/
import Derived.Test.YtjfdgccoblanlaaMConI
namespace Go.Abs.TC
open Go Go.Abs Go.Proofs

/-! ### A call -/
def eCall : El law04_Call := ⟨5, law04_Call.cells, fun _ => rfl, fun a b h => by
  cases a with
  | mk k n na t da =>
    cases b with
    | mk k' n' na' t' da' =>
      cases da; cases da'
      simp [law04_Call.cells] at h
      obtain ⟨h1, h2, h3, h4, h5, h6, h7⟩ := h
      rw [h1, h2, h3, h4, h5, h6, h7]⟩
structure PCall where
  Kind : Int
  N : Int
  Name : ByteArray
  To : ByteArray
  Data : List UInt8
/-- A slice in memory that can only be read. -/
def Ro (σ : Heap) (s : Sl) : Prop := ∀ c, s.b = some c → ∃ cs, σ[c]? = some (.row cs .ro)
/-- What can only be read stays. -/
def RoKeep (σ σ' : Heap) : Prop := ∀ (c : Nat) (cs : List AVal), σ[c]? = some (Blk.row cs .ro) → σ'[c]? = some (Blk.row cs .ro)
theorem RoKeep.trans {a b c : Heap} (h : RoKeep a b) (k : RoKeep b c) : RoKeep a c := fun x cs hx => k x cs (h x cs hx)
structure CallIs (σ : Heap) (c : law04_Call) (p : PCall) : Prop where
  kind : c.Kind = p.Kind
  n : c.N = p.N
  name : c.Name = p.Name
  to : c.To = p.To
  data : c.Data.Is eU8 σ p.Data
  ro : Ro σ c.Data
  hi : p.N ≤ 9223372036854775807
  len : p.Data.length ≤ 100
structure CallsIs (σ : Heap) (calls : Sl) (cs : List law04_Call) (ps : List PCall) : Prop where
  is : calls.Is eCall σ cs
  ro : Ro σ calls
  len : cs.length = ps.length
  few : cs.length ≤ 100
  each : ∀ (i : Nat) (c : law04_Call) (p : PCall), cs[i]? = some c → ps[i]? = some p → CallIs σ c p
section
variable {σ σ' : Heap} {d d' : SD}
theorem Ro.out {s : Sl} (h : Ro σ s) (hd : St σ .rw d) : ∀ c, s.b = some c → c ∉ d.foot := fun c hc => by
  obtain ⟨cs, h1⟩ := h c hc
  exact hd.ro_out h1
theorem Ro.keep {s : Sl} (h : Ro σ s) (e : RoKeep σ σ') : Ro σ' s := fun c hc => by
  obtain ⟨cs, h1⟩ := h c hc
  exact ⟨cs, e c cs h1⟩
theorem is_keep {α : Type} {E : El α} {s : Sl} {xs : List α} (hs : s.Is E σ xs) (h : Ro σ s) (e : RoKeep σ σ') : s.Is E σ' xs :=
  hs.of_row fun c cs hc hr => by
    obtain ⟨cs', h1⟩ := h c hc
    rw [row?_of h1 (by simp)] at hr
    injection hr with hr
    subst hr
    exact row?_of (e c _ h1) (by simp)
theorem CallIs.keep {c : law04_Call} {p : PCall} (h : CallIs σ c p) (e : RoKeep σ σ') : CallIs σ' c p :=
  ⟨h.kind, h.n, h.name, h.to, is_keep h.data h.ro e, h.ro.keep e, h.hi, h.len⟩
theorem CallsIs.keep {calls : Sl} {cs : List law04_Call} {ps : List PCall} (h : CallsIs σ calls cs ps) (e : RoKeep σ σ') : CallsIs σ' calls cs ps :=
  ⟨is_keep h.is h.ro e, h.ro.keep e, h.len, h.few, fun i c p h1 h2 => (h.each i c p h1 h2).keep e⟩
theorem ro_fr (k : Fr σ d σ' d') (h : St σ .rw d) : RoKeep σ σ' := fun _ _ hb => k.ro h hb
theorem ro_pre (hp : σ <+: σ') : RoKeep σ σ' := fun c cs hb => by
  rw [get_pre hp (List.getElem?_eq_some_iff.1 hb).1]; exact hb
theorem CallsIs.get {calls : Sl} {cs : List law04_Call} {ps : List PCall} (h : CallsIs σ calls cs ps) {i : Nat} {p : PCall} (hp : ps[i]? = some p) : ∃ c, cs[i]? = some c ∧ CallIs σ c p := by
  have hi := (List.getElem?_eq_some_iff.1 hp).1
  rw [← h.len] at hi
  exact ⟨cs[i], List.getElem?_eq_getElem hi, h.each i _ p (List.getElem?_eq_getElem hi) hp⟩
/-- The cells of a call. -/
theorem call_cells {calls : Sl} {cs : List law04_Call} (h : calls.Is eCall σ cs) {i : Nat} {c : law04_Call} (hi : cs[i]? = some c) :
    ∃ b, calls.b = some b ∧ int? (σ.cell? b (calls.o + i * 5)) .i64 = some c.Kind ∧ int? (σ.cell? b (calls.o + i * 5 + 1)) .i64 = some c.N ∧ str? (σ.cell? b (calls.o + i * 5 + 2)) = some c.Name ∧ str? (σ.cell? b (calls.o + i * 5 + 3)) = some c.To ∧
      slice? (σ.cell? b (calls.o + i * 5 + 4)) 1 = some (c.Data.b, c.Data.o, c.Data.n) := by
  obtain ⟨b, h1, h2⟩ := h.cell hi
  have c0 : σ.cell? b (calls.o + i * 5 + 0) = some (.int .i64 c.Kind) := h2 0 (by decide)
  have c1 : σ.cell? b (calls.o + i * 5 + 1) = some (.int .i64 c.N) := h2 1 (by decide)
  have c2 : σ.cell? b (calls.o + i * 5 + 2) = some (.str c.Name) := h2 2 (by decide)
  have c3 : σ.cell? b (calls.o + i * 5 + 3) = some (.str c.To) := h2 3 (by decide)
  have c4 : σ.cell? b (calls.o + i * 5 + 4) = some (.slice c.Data.b c.Data.o c.Data.n 1) := h2 4 (by decide)
  rw [Nat.add_zero] at c0
  refine ⟨b, h1, by rw [c0]; rfl, by rw [c1]; rfl, by rw [c2]; rfl, by rw [c3]; rfl, by rw [c4]; simp [slice?]⟩
end

/-! ### kind, right -/
def kindI (k : Int) : Int := IntKind.i64.wrap (BitVec.ofInt IntKind.i64.bits k &&& BitVec.ofInt IntKind.i64.bits 7).toNat
theorem kindI_lt (k : Int) : ∃ n : Nat, n ≤ 7 ∧ kindI k = (n : Int) := by
  have h : (BitVec.ofInt IntKind.i64.bits k &&& BitVec.ofInt IntKind.i64.bits 7).toNat ≤ 7 := by
    rw [BitVec.toNat_and]
    exact Nat.and_le_right
  exact ⟨_, h, wrap_i64_nat _ (by omega)⟩
noncomputable def w_law04_Call_kind (c : law04_Call) (σ : Heap) : Option (Int × Heap) := some (kindI c.Kind, σ)
theorem ok_law04_Call_kind : Ok_law04_Call_kind w_law04_Call_kind := fun c σ v σ' h => by
  injection h with h
  injection h with h1 h2
  subst h1; subst h2
  exact call_ok ok known0_ok (L := 0) (n := 2) (law04_Call_kind_eq 0 c σ _)
noncomputable def w_law04_right (n : ByteArray) (σ : Heap) : Option (Bool × Heap) := some (nameOk n, σ)
theorem ok_law04_right : Ok_law04_right w_law04_right := fun n σ v σ' h => by
  injection h with h
  injection h with h1 h2
  subst h1; subst h2
  refine call_ok ok known0_ok (L := 0) (n := 2) ((law04_right_eq 0 n σ _).trans ?_)
  unfold nameOk
  by_cases hz : n.size = 0
  · rw [decide_eq_false (show ¬ ((n.size : Int) > 0) by omega), decide_eq_false (show ¬ (n.size ≠ 0 ∧ n.size ≤ 12) from fun h => h.1 hz)]; rfl
  · rw [decide_eq_true (show ((n.size : Int) > 0) by omega), cond_true]
    by_cases hl : n.size ≤ 12
    · rw [decide_eq_true (show (n.size : Int) < 13 by omega), decide_eq_true ⟨hz, hl⟩]; rfl
    · rw [decide_eq_false (show ¬ (n.size : Int) < 13 by omega), decide_eq_false (show ¬ (n.size ≠ 0 ∧ n.size ≤ 12) from fun h => hl h.2)]; rfl

/-! ### short -/
def shortC (c : law04_Call) : Bool := decide (c.Data.n ≤ 100) && decide (c.Name.size ≤ 50) && decide (c.To.size ≤ 50)
theorem short_loop {L : Nat} {calls : Sl} {σ : Heap} {cs : List law04_Call} (hC : calls.Is eCall σ cs) (hl : cs.length ≤ 100) :
    ∀ (k i m : Nat), i + k = cs.length → k < m → law04_short_L4 (R := AVal × Heap) L m calls (i : Int) σ (fun v σ => some (v, σ)) = some (.bool ((cs.drop i).all shortC), σ)
  | k, i, 0, _, h => by omega
  | 0, i, m + 1, hi, _ => by
    rw [law04_short_L4_eq, hC.n, lt_false (by omega), cond_false, List.drop_of_length_le (by omega)]
    rfl
  | k + 1, i, m + 1, hi, hm => by
    have hil : i < cs.length := by omega
    obtain ⟨b, hb, e0, e1, e2, e3, e4⟩ := call_cells hC (List.getElem?_eq_getElem hil)
    rw [law04_short_L4_eq, hC.n, lt_true hil, cond_true, dec0, Bool.and_true, cond_true, hb, Option.bind_some, show ((i : Nat) : Int).toNat = i from rfl, e0, Option.bind_some, e1, Option.bind_some, e2, Option.bind_some, e3, Option.bind_some, e4, Option.bind_some]
    dsimp only
    rw [List.drop_eq_getElem_cons hil, List.all_cons]
    by_cases h1 : cs[i].Data.n ≤ 100
    · rw [decide_eq_false (show ¬ ((cs[i].Data.n : Int) > 100) by omega), cond_false]
      by_cases h2 : cs[i].Name.size ≤ 50
      · rw [decide_eq_false (show ¬ ((cs[i].Name.size : Int) > 50) by omega), cond_false]
        by_cases h3 : cs[i].To.size ≤ 50
        · rw [decide_eq_false (show ¬ ((cs[i].To.size : Int) > 50) by omega), cond_false, wrap_i64_succ i (by omega), short_loop hC hl k (i + 1) m (by omega) (by omega)]
          simp [shortC, h1, h2, h3]
        · rw [decide_eq_true (show ((cs[i].To.size : Int) > 50) by omega), cond_true]
          simp [shortC, h3]
      · rw [decide_eq_true (show ((cs[i].Name.size : Int) > 50) by omega), cond_true]
        simp [shortC, h2]
    · rw [decide_eq_true (show ((cs[i].Data.n : Int) > 100) by omega), cond_true]
      simp [shortC, h1]
/-- What is known of the calls that come in. -/
structure CallsArg (σ : Heap) (calls : Sl) (cs : List law04_Call) (ps : List PCall) : Prop where
  n : calls.n = cs.length
  is : cs.length ≤ 1099511627776 → calls.Is eCall σ cs
  ro : Ro σ calls
  len : cs.length = ps.length
  each : ∀ (i : Nat) (c : law04_Call) (p : PCall), cs[i]? = some c → ps[i]? = some p → c.Kind = p.Kind ∧ c.N = p.N ∧ c.Name = p.Name ∧ c.To = p.To ∧ c.Data.n = p.Data.length ∧ (p.Data.length ≤ 1099511627776 → c.Data.Is eU8 σ p.Data) ∧ Ro σ c.Data ∧ p.N ≤ 9223372036854775807
noncomputable def w_law04_short (calls : Sl) (σ : Heap) : Option (Bool × Heap) :=
  if calls.n > 100 then some (false, σ) else wOf (fun cs => calls.Is eCall σ cs) fun cs => (cs.all shortC, σ)
theorem ok_law04_short : Ok_law04_short w_law04_short := fun calls σ v σ' h => by
  unfold w_law04_short at h
  split at h
  · rename_i hn
    injection h with h
    injection h with h1 h2
    subst h1; subst h2
    refine call_ok ok known0_ok (L := 0) (n := 2) ((law04_short_eq 0 calls σ _).trans ?_)
    rw [decide_eq_true (show (calls.n : Int) > 100 by omega), cond_true]
    rfl
  · rename_i hn
    obtain ⟨cs, hC, e⟩ := wOf_some h
    injection e with e1 e2
    subst e1; subst e2
    have hcl : cs.length ≤ 100 := by rw [← hC.n]; omega
    refine call_ok ok known0_ok (L := cs.length + 1) (n := 2) ((law04_short_eq (cs.length + 1) calls σ _).trans ?_)
    rw [decide_eq_false (show ¬ (calls.n : Int) > 100 by omega), cond_false]
    exact short_loop hC hcl cs.length 0 (cs.length + 1) (by omega) (by omega)
theorem w_law04_short_eq {calls : Sl} {σ : Heap} {cs : List law04_Call} {ps : List PCall} (h : CallsArg σ calls cs ps) :
    (w_law04_short calls σ = some (false, σ)) ∨ (w_law04_short calls σ = some (true, σ) ∧ CallsIs σ calls cs ps ∧ ∀ p ∈ ps, p.Name.size ≤ 50 ∧ p.To.size ≤ 50) := by
  unfold w_law04_short
  by_cases hn : calls.n > 100
  · rw [if_pos hn]; exact .inl rfl
  · rw [if_neg hn]
    have hn' := h.n
    have hC := h.is (by omega)
    have e := wOf_eq (P := fun cs => calls.Is eCall σ cs) (f := fun cs => (cs.all shortC, σ)) hC fun y hy => by rw [hy.uniq (by decide) hC]
    rw [e]
    cases ha : cs.all shortC with
    | false => exact .inl rfl
    | true =>
      rw [List.all_eq_true] at ha
      have sm : ∀ (i : Nat) (p : PCall), ps[i]? = some p → ∃ c, cs[i]? = some c ∧ shortC c = true := fun i p hp => by
        have hi := (List.getElem?_eq_some_iff.1 hp).1
        rw [← h.len] at hi
        exact ⟨cs[i], List.getElem?_eq_getElem hi, ha _ (List.getElem_mem hi)⟩
      refine .inr ⟨rfl, ⟨hC, h.ro, h.len, by omega, fun i c p hc hp => ?_⟩, fun p hp => ?_⟩
      · obtain ⟨e1, e2, e3, e4, e5, e6, e7, e8⟩ := h.each i c p hc hp
        have := ha c (List.mem_of_getElem? hc)
        simp only [shortC, Bool.and_eq_true, decide_eq_true_eq] at this
        exact ⟨e1, e2, e3, e4, e6 (by omega), e7, e8, by omega⟩
      · obtain ⟨i, hi⟩ := List.mem_iff_getElem?.1 hp
        obtain ⟨c, hc, hs⟩ := sm i p hi
        obtain ⟨e1, e2, e3, e4, _⟩ := h.each i c p hc hi
        simp only [shortC, Bool.and_eq_true, decide_eq_true_eq] at hs
        rw [← e3, ← e4]
        exact ⟨hs.1.2, hs.2⟩
end Go.Abs.TC
namespace Go.Abs.TC
open Go Go.Abs Go.Proofs

/-! ### keeps -/
def and15 (x : UInt8) : Int := IntKind.i64.wrap (IntKind.u8.wrap (BitVec.ofInt IntKind.u8.bits (x.toNat : Int) &&& BitVec.ofInt IntKind.u8.bits 15).toNat)
instance : El.Flat eI64 := ⟨fun _ => rfl⟩
def keepsV (c : Int) (xs : List UInt8) : List Int := c :: xs.map and15
noncomputable def w_law04_Call_keeps (c : law04_Call) (σ : Heap) : Option (Sl × Heap) := wOf (fun xs => c.Data.Is eU8 σ xs ∧ xs.length ≤ 100 ∧ Ro σ c.Data) fun xs => fresh eI64 σ false (keepsV c.N xs)
theorem w_law04_Call_keeps_eq {c : law04_Call} {p : PCall} {σ : Heap} (h : CallIs σ c p) : w_law04_Call_keeps c σ = some (fresh eI64 σ false (keepsV p.N p.Data)) := by
  rw [← h.n]
  exact wOf_eq (P := fun xs => c.Data.Is eU8 σ xs ∧ xs.length ≤ 100 ∧ Ro σ c.Data) (f := fun xs => fresh eI64 σ false (keepsV c.N xs)) ⟨h.data, h.len, h.ro⟩ fun y hy => by rw [hy.1.uniq (by decide) h.data]
theorem keeps_loop {L : Nat} {σ0 : Heap} {c : law04_Call} {xs : List UInt8} (hx : c.Data.Is eU8 σ0 xs) (hl : xs.length ≤ 100) (hro : Ro σ0 c.Data) :
    ∀ (k i m : Nat) (σ : Heap) (l : Sl), i + k = xs.length → k < m → Mine eI64 σ0 l σ (c.N :: (xs.take i).map and15) →
      ∃ l' σ', law04_Call_keeps_L3 (R := AVal × Heap) L m l c (i : Int) σ (fun v σ => some (v, σ)) = some (.slice l'.b l'.o l'.n 1, σ') ∧ Mine eI64 σ0 l' σ' (keepsV c.N xs)
  | k, i, 0, _, _, _, h, _ => by omega
  | 0, i, m + 1, σ, l, hi, _, hM => by
    rw [List.take_of_length_le (by omega)] at hM
    exact ⟨l, σ, by rw [law04_Call_keeps_L3_eq, hx.n, lt_false (by omega), cond_false], hM⟩
  | k + 1, i, m + 1, σ, l, hi, hm, hM => by
    have hil : i < xs.length := by omega
    have hx' := is_keep hx hro (ro_pre hM.pre)
    obtain ⟨b, hb, hc⟩ := u8_cell hx' (List.getElem?_eq_getElem hil)
    obtain ⟨q, σ1, h1, h2⟩ := hM.append (zs := [and15 xs[i]]) (bytes := 8) (vs := [.int .i64 (and15 xs[i])]) (k := 1) rfl rfl (by simp; omega) (by simp; omega)
    have e : (c.N :: (xs.take i).map and15) ++ [and15 xs[i]] = c.N :: (xs.take (i + 1)).map and15 := by
      rw [List.take_succ_eq_append_getElem hil, List.map_append, List.cons_append]; rfl
    rw [e] at h2
    obtain ⟨l', σ', r1, r2⟩ := keeps_loop (L := L) hx hl hro k (i + 1) m σ1 ⟨q.1, q.2.1, q.2.2⟩ (by omega) (by omega) h2
    refine ⟨l', σ', ?_, r2⟩
    have h1' : σ.append l.b l.o l.n 1 8 [.int .i64 (and15 xs[i])] 1 = some (q, σ1) := h1
    unfold and15 at h1'
    rw [law04_Call_keeps_L3_eq, hx.n, lt_true hil, cond_true, dec0, Bool.and_true, cond_true, hb, Option.bind_some, show ((i : Nat) : Int).toNat = i from rfl, hc, show int? (some (AVal.int .u8 (xs[i].toNat : Int))) .u8 = some (xs[i].toNat : Int) from rfl, Option.bind_some, h1', Option.bind_some, wrap_i64_succ i (by omega)]
    exact r1
theorem ok_law04_Call_keeps : Ok_law04_Call_keeps w_law04_Call_keeps := fun c σ v σ' h => by
  obtain ⟨xs, ⟨hx, hl, hro⟩, e⟩ := wOf_some h
  have e1 : v = (fresh eI64 σ false (keepsV c.N xs)).1 := (congrArg Prod.fst e).symm
  have e2 : σ' = (fresh eI64 σ false (keepsV c.N xs)).2 := (congrArg Prod.snd e).symm
  subst e1; subst e2
  have hM : Mine eI64 σ ⟨some σ.length, 0, 1⟩ (σ ++ [.row [.int .i64 c.N] .rw]) (c.N :: (xs.take 0).map and15) :=
    ⟨pre_push .., .row σ.length rfl rfl rfl (get_push ..), fun c hc => by injection hc with hc; omega⟩
  obtain ⟨l', σ', r1, r2⟩ := keeps_loop (L := xs.length + 1) hx hl hro xs.length 0 (xs.length + 1) _ _ (by omega) (by omega) hM
  refine call_mine (z := 1) (call_ok ok known0_ok (L := xs.length + 1) (n := 2) ((law04_Call_keeps_eq (xs.length + 1) c σ _).trans ?_)) r2 (Own.some_of_ne r2.own (by simp [keepsV])).symm
  simp only [alloc]
  exact r1

/-! ### do -/
def Sto.doC (t : Sto) (p : PCall) : Int × Sto :=
  if kindI p.Kind = 2 then t.sync p.Name else if kindI p.Kind = 3 then t.rename p.Name p.To else if kindI p.Kind = 4 then t.delete p.Name else if kindI p.Kind = 5 then t.cut p.Name p.N else
  if kindI p.Kind = 6 then (0, t.fuse p.N) else if kindI p.Kind = 7 then (0, t.crash (keepsV p.N p.Data)) else t.append p.Name p.Data
noncomputable def c_law04_do : C_law04_do := { law04_Call_kind := w_law04_Call_kind, file_Store_Sync := w_file_Store_Sync, file_Store_Rename := w_file_Store_Rename, file_Store_Delete := w_file_Store_Delete, file_Store_Cut := w_file_Store_Cut, file_Store_Fuse := w_file_Store_Fuse, law04_Call_keeps := w_law04_Call_keeps, file_Store_Crash := w_file_Store_Crash, file_Store_Append := w_file_Store_Append }
open Classical in
noncomputable def readC (σ : Heap) (c : law04_Call) : Option PCall := if h : ∃ p, CallIs σ c p then some h.choose else none
theorem CallIs.uniq {σ : Heap} {c : law04_Call} {p q : PCall} (h : CallIs σ c p) (k : CallIs σ c q) : p = q := by
  cases p; cases q
  have e := h.data.uniq (by decide) k.data
  have e1 := h.kind.symm.trans k.kind
  have e2 := h.n.symm.trans k.n
  have e3 := h.name.symm.trans k.name
  have e4 := h.to.symm.trans k.to
  simp only at e e1 e2 e3 e4
  rw [e, e1, e2, e3, e4]
theorem readC_eq {σ : Heap} {c : law04_Call} {p : PCall} (h : CallIs σ c p) : readC σ c = some p := by
  unfold readC
  have h' : ∃ p, CallIs σ c p := ⟨p, h⟩
  rw [dif_pos h', h'.choose_spec.uniq h]
noncomputable def w_law04_do (s : Pt) (c : law04_Call) (σ : Heap) : Option (Int × Heap) := stRel 16 [.ptr s, t_law04_Call.av c] (tInt .i64).av s (fun t => (readC σ c).map fun p => t.doC p) σ
theorem ok_law04_do : Ok_law04_do w_law04_do := fun _ _ _ _ _ h => stRel_ok h
theorem w_law04_do_ex {σ : Heap} {d : SD} (h : St σ .rw d) (hl : LeftOk d) {c : law04_Call} {p : PCall} (hc : CallIs σ c p) (hroom : usedF d.fs + d.fs.length ≤ 900000) :
    ∃ σ' d', w_law04_do (some (d.s, 0)) c σ = some ((d.sto.doC p).1, σ') ∧ St σ' .rw d' ∧ Fr σ d σ' d' ∧ d'.sto = (d.sto.doC p).2 := by
  refine stRel_ex (op := fun t => (readC σ c).map fun p => t.doC p) h (r := d.sto.doC p) (by simp only [readC_eq hc, Option.map_some]) ?_
  have hlen := hc.len
  have hdata := hc.data
  have hro := hc.ro
  have hkeeps := w_law04_Call_keeps_eq hc
  have q1 := hc.kind
  have q2 := hc.n
  have q3 := hc.name
  have q4 := hc.to
  clear hc
  obtain ⟨ck, cn, cname, cto, cdata⟩ := c
  obtain ⟨pk, pn, pname, pto, pdata⟩ := p
  dsimp only at q1 q2 q3 q4 hlen hdata hro hkeeps
  subst q1; subst q2; subst q3; subst q4
  have p1 : c_law04_do.law04_Call_kind = w_law04_Call_kind := rfl
  have p2 : c_law04_do.file_Store_Sync = w_file_Store_Sync := rfl
  have p3 : c_law04_do.file_Store_Rename = w_file_Store_Rename := rfl
  have p4 : c_law04_do.file_Store_Delete = w_file_Store_Delete := rfl
  have p5 : c_law04_do.file_Store_Cut = w_file_Store_Cut := rfl
  have p6 : c_law04_do.file_Store_Fuse = w_file_Store_Fuse := rfl
  have p7 : c_law04_do.law04_Call_keeps = w_law04_Call_keeps := rfl
  have p8 : c_law04_do.file_Store_Crash = w_file_Store_Crash := rfl
  have p9 : c_law04_do.file_Store_Append = w_file_Store_Append := rfl
  have hr := law04_do_eq (R := AVal × Heap) c_law04_do 0 (some (d.s, 0)) ⟨ck, cn, cname, cto, cdata⟩ σ fun v σ => some (v, σ)
  have hK := K_law04_do c_law04_do ok_file_Store_Crash ok_file_Store_Append ok_file_Store_Sync ok_law04_Call_kind ok_file_Store_Fuse ok_file_Store_Rename ok_file_Store_Delete ok_file_Store_Cut ok_law04_Call_keeps
  rw [p1, w_law04_Call_kind, Option.bind_some, p2, p3, p4, p5, p6, p7, p8, p9] at hr
  dsimp only at hr
  unfold Sto.doC
  by_cases k2 : kindI ck = 2
  · obtain ⟨σ', d', r1, r2⟩ := w_file_Store_Sync_ex h hl cname
    rw [show (kindI ck == 2) = true by simpa using k2, cond_true, r1, Option.bind_some] at hr
    rw [if_pos k2]
    exact ⟨σ', d', call_ok ok hK hr, r2⟩
  rw [show (kindI ck == 2) = false by simpa using k2, cond_false] at hr
  rw [if_neg k2]
  by_cases k3 : kindI ck = 3
  · obtain ⟨σ', d', r1, r2⟩ := w_file_Store_Rename_ex h hl cname cto
    rw [show (kindI ck == 3) = true by simpa using k3, cond_true, r1, Option.bind_some] at hr
    rw [if_pos k3]
    exact ⟨σ', d', call_ok ok hK hr, r2⟩
  rw [show (kindI ck == 3) = false by simpa using k3, cond_false] at hr
  rw [if_neg k3]
  by_cases k4 : kindI ck = 4
  · obtain ⟨σ', d', r1, r2⟩ := w_file_Store_Delete_ex h hl cname
    rw [show (kindI ck == 4) = true by simpa using k4, cond_true, r1, Option.bind_some] at hr
    rw [if_pos k4]
    exact ⟨σ', d', call_ok ok hK hr, r2⟩
  rw [show (kindI ck == 4) = false by simpa using k4, cond_false] at hr
  rw [if_neg k4]
  by_cases k5 : kindI ck = 5
  · obtain ⟨σ', d', r1, r2⟩ := w_file_Store_Cut_ex h hl cname cn
    rw [show (kindI ck == 5) = true by simpa using k5, cond_true, r1, Option.bind_some] at hr
    rw [if_pos k5]
    exact ⟨σ', d', call_ok ok hK hr, r2⟩
  rw [show (kindI ck == 5) = false by simpa using k5, cond_false] at hr
  rw [if_neg k5]
  by_cases k6 : kindI ck = 6
  · obtain ⟨σ', d', r1, r2⟩ := w_file_Store_Fuse_ex h cn
    rw [show (kindI ck == 6) = true by simpa using k6, cond_true, r1, Option.bind_some] at hr
    rw [if_pos k6]
    exact ⟨σ', d', call_ok ok hK hr, r2⟩
  rw [show (kindI ck == 6) = false by simpa using k6, cond_false] at hr
  rw [if_neg k6]
  by_cases k7 : kindI ck = 7
  · have A := fresh_own eI64 σ false (keepsV cn pdata) (by simp)
    have AP := fresh_pre eI64 σ false (keepsV cn pdata)
    have AN := fresh_new eI64 σ false (keepsV cn pdata)
    rw [show (kindI ck == 7) = true by simpa using k7, cond_true, hkeeps, Option.bind_some] at hr
    generalize fresh eI64 σ false (keepsV cn pdata) = q at A AP AN hr
    obtain ⟨σ', d', r1, r2, r3, r4⟩ := w_file_Store_Crash_ex (h.pre AP) (A.is (by simp [keepsV]; omega)) (fun c hc hm => by have := AN c hc; have := h.foot_lt hm; omega)
    rw [r1, Option.bind_some] at hr
    rw [if_pos k7]
    exact ⟨σ', d', call_ok ok hK hr, r2, (Fr.of_pre AP).trans r3, r4⟩
  rw [show (kindI ck == 7) = false by simpa using k7, cond_false] at hr
  rw [if_neg k7]
  obtain ⟨σ', d', r1, r2⟩ := w_file_Store_Append_ex h hl cname hdata (hro.out h) (by omega)
  rw [r1, Option.bind_some] at hr
  exact ⟨σ', d', call_ok ok hK hr, r2⟩
end Go.Abs.TC
namespace Go.Abs.TC
open Go Go.Abs Go.Proofs

/-! ### Sizes -/
def usedL (fs : List Fil) : Nat := (fs.map fun f => f.data.length).sum
theorem usedL_cons (f : Fil) (fs : List Fil) : usedL (f :: fs) = f.data.length + usedL fs := rfl
section
variable {f x : Fil} {n : ByteArray}
theorem usedL_put_none : ∀ {fs : List Fil}, getK Fil.name x.name fs = none → usedL (putK Fil.name x fs) = usedL fs + x.data.length ∧ (putK Fil.name x fs).length = fs.length + 1
  | fs, h => by rw [putK_none h]; simp [usedL]
theorem usedL_put : ∀ {fs : List Fil}, getK Fil.name x.name fs = some f → usedL (putK Fil.name x fs) + f.data.length = usedL fs + x.data.length ∧ (putK Fil.name x fs).length = fs.length
  | [], h => by cases h
  | g :: r, h => by
    simp only [getK] at h
    simp only [putK]
    split at h
    · rename_i e
      injection h with h
      subst h
      rw [if_pos e, usedL_cons, usedL_cons]
      exact ⟨by omega, rfl⟩
    · rename_i e
      obtain ⟨h1, h2⟩ := usedL_put h
      rw [if_neg e, usedL_cons, usedL_cons]
      exact ⟨by omega, by simp [h2]⟩
theorem usedL_del : ∀ {fs : List Fil}, getK Fil.name n fs = some f → usedL (delK Fil.name n fs) + f.data.length = usedL fs ∧ (delK Fil.name n fs).length + 1 = fs.length
  | [], h => by cases h
  | g :: r, h => by
    simp only [getK] at h
    simp only [delK]
    split at h
    · rename_i e
      injection h with h
      subst h
      rw [if_pos e, usedL_cons]
      exact ⟨by omega, rfl⟩
    · rename_i e
      obtain ⟨h1, h2⟩ := usedL_del h
      rw [if_neg e, usedL_cons, usedL_cons]
      exact ⟨by omega, by simp [h2]⟩
/-- What is put in. -/
theorem usedL_put_le (x : Fil) (fs : List Fil) : usedL (putK Fil.name x fs) + (putK Fil.name x fs).length ≤ usedL fs + fs.length + x.data.length + 1 := by
  cases hg : getK Fil.name x.name fs with
  | none => obtain ⟨h1, h2⟩ := usedL_put_none hg; omega
  | some f => obtain ⟨h1, h2⟩ := usedL_put hg; omega
end
theorem Sto.used_eq (t : Sto) : t.used = usedL t.fs := rfl
def Sto.size (t : Sto) : Nat := usedL t.fs + t.fs.length
theorem SD.size_sto (d : SD) : d.sto.size = usedF d.fs + d.fs.length := by
  have := d.used_sto
  rw [Sto.used_eq] at this
  unfold Sto.size
  rw [this]
  simp [SD.sto]

/-! ### A call below six -/
theorem change_cases (t : Sto) : (t.armed = true ∧ t.left = 0 ∧ t.change = (8, { t with down := true })) ∨
    (¬ (t.armed = true ∧ t.left = 0) ∧ t.change.1 = 0 ∧ t.change.2.down = t.down ∧ t.change.2.armed = t.armed ∧ t.change.2.quota = t.quota ∧ t.change.2.fs = t.fs ∧ t.change.2.left = if t.armed then t.left - 1 else t.left) := by
  unfold Sto.change
  by_cases h : t.armed = true ∧ t.left = 0
  · rw [if_pos h]; exact .inl ⟨h.1, h.2, rfl⟩
  · rw [if_neg h]
    by_cases a : t.armed = true
    · rw [if_pos a, if_pos a]; exact .inr ⟨h, rfl, rfl, rfl, rfl, rfl, rfl⟩
    · rw [if_neg a, if_neg a]; exact .inr ⟨h, rfl, rfl, rfl, rfl, rfl, rfl⟩
/-- What a call below six does. -/
inductive Done (t : Sto) (r : Int × Sto) (n : Nat) : Prop where
  | down (hd : t.down = true) (hr : r = (8, t))
  | no (hd : t.down = false) (c : Int) (h0 : c ≠ 0) (h8 : c ≠ 8) (hr : r = (c, t))
  | falls (hd : t.down = false) (ha : t.armed = true) (hl : t.left = 0) (hr : r = (8, { t with down := true }))
  | yes (hd : t.down = false) (ha : ¬ (t.armed = true ∧ t.left = 0)) (t' : Sto) (hr : r = (0, t')) (hd' : t'.down = false) (hq : t'.quota = t.quota) (ha' : t'.armed = t.armed) (hl' : t'.left = if t.armed then t.left - 1 else t.left)
      (hs : t'.size ≤ t.size + n + 1)
theorem onFile_done {t : Sto} {n : ByteArray} {h : Fil → Sto → Sto} {k : Nat} (hh : ∀ f u, u.fs = t.fs → t.get n = some f → (h f u).down = u.down ∧ (h f u).quota = u.quota ∧ (h f u).armed = u.armed ∧ (h f u).left = u.left ∧ (h f u).size ≤ u.size + k + 1) :
    Done t (t.onFile n h) k := by
  cases hd : t.down with
  | true => exact .down hd (onFile_down hd)
  | false =>
    cases hg : t.get n with
    | none => exact .no hd 4 (by decide) (by decide) (onFile_none hd hg)
    | some f =>
      rcases change_cases t with ⟨c1, c2, c3⟩ | ⟨c1, c2, c3, c4, c5, c6, c7⟩
      · exact .falls hd c1 c2 ((onFile_no hd hg (by rw [c3]; exact (by decide : (8:Int) ≠ 0))).trans c3)
      · obtain ⟨e1, e2, e3, e4, e5⟩ := hh f t.change.2 c6 hg
        refine .yes hd c1 _ (onFile_yes hd hg c2) (by rw [e1, c3, hd]) (by rw [e2, c5]) (by rw [e3, c4]) (by rw [e4, c7]) ?_
        unfold Sto.size at e5 ⊢
        rw [c6] at e5
        exact e5
theorem append_done (t : Sto) (nm : ByteArray) (xs : List UInt8) : Done t (t.append nm xs) xs.length := by
  unfold Sto.append
  cases hd : t.down with
  | true => exact .down hd (if_pos rfl)
  | false =>
    simp only [Bool.false_eq_true, if_false]
    split
    · exact .no hd 3 (by decide) (by decide) rfl
    split
    · exact .no hd 5 (by decide) (by decide) rfl
    rcases change_cases t with ⟨c1, c2, c3⟩ | ⟨c1, c2, c3, c4, c5, c6, c7⟩
    · rw [if_neg (by rw [c3]; exact (by decide : ¬ (8:Int) = 0))]
      exact .falls hd c1 c2 c3
    · rw [if_pos c2]
      refine .yes hd c1 _ rfl (c3.trans hd) c5 c4 c7 ?_
      simp only [Sto.size, Sto.put, c6]
      cases hg : t.get nm with
      | none =>
        have := usedL_put_le ⟨nm, xs, 0⟩ t.fs
        simp only at this ⊢
        omega
      | some f =>
        have hg' : getK Fil.name f.name t.fs = some f := by rw [(getK_mem hg).2]; exact hg
        have h1 := usedL_put (x := { f with data := f.data ++ xs }) hg'
        simp only [List.length_append] at h1 ⊢
        omega
theorem sync_done (t : Sto) (nm : ByteArray) (k : Nat) : Done t (t.sync nm) k := by
  refine onFile_done fun f u hu hg => ⟨rfl, rfl, rfl, rfl, ?_⟩
  have hg' : getK Fil.name f.name u.fs = some f := by rw [hu, (getK_mem hg).2]; exact hg
  have := usedL_put (x := { f with sure := f.data.length }) hg'
  simp only [Sto.size, Sto.put] at this ⊢
  omega
theorem doC_done (t : Sto) (p : PCall) (hk : kindI p.Kind < 6) : Done t (t.doC p) p.Data.length := by
  unfold Sto.doC
  split
  · refine onFile_done fun f u hu hg => ⟨rfl, rfl, rfl, rfl, ?_⟩
    have hg' : getK Fil.name f.name u.fs = some f := by rw [hu, (getK_mem hg).2]; exact hg
    have := usedL_put (x := { f with sure := f.data.length }) hg'
    simp only [Sto.size, Sto.put] at this ⊢
    omega
  split
  · unfold Sto.rename
    split
    · rename_i h; exact .no h.1 3 (by decide) (by decide) rfl
    · refine onFile_done fun f u hu hg => ⟨rfl, rfl, rfl, rfl, ?_⟩
      have hg' : getK Fil.name p.Name u.fs = some f := by rw [hu]; exact hg
      have h1 := usedL_del hg'
      have h2 := usedL_put_le { f with name := p.To } (delK Fil.name p.Name u.fs)
      simp only [Sto.size, Sto.put] at h2 ⊢
      omega
  split
  · refine onFile_done fun f u hu hg => ⟨rfl, rfl, rfl, rfl, ?_⟩
    have hg' : getK Fil.name p.Name u.fs = some f := by rw [hu]; exact hg
    have h1 := usedL_del hg'
    simp only [Sto.size]
    omega
  split
  · refine onFile_done fun f u hu hg => ⟨rfl, rfl, rfl, rfl, ?_⟩
    have hg' : getK Fil.name f.name u.fs = some f := by rw [hu, (getK_mem hg).2]; exact hg
    have h1 := usedL_put (x := { f with data := f.data.take (cutN p.N f.data.length), sure := min f.sure (cutN p.N f.data.length) }) hg'
    simp only [Sto.size, Sto.put, List.length_take] at h1 ⊢
    omega
  split
  · omega
  split
  · omega
  exact append_done t p.Name p.Data

/-! ### A crash, plain -/
theorem crash1_size (more : Nat) (n : ByteArray) (fs : List Fil) : usedL (crash1 more n fs) ≤ usedL fs ∧ (crash1 more n fs).length = fs.length := by
  unfold crash1
  cases hg : getK Fil.name n fs with
  | none => exact ⟨Nat.le_refl _, rfl⟩
  | some f =>
    have hg' : getK Fil.name f.name fs = some f := by rw [(getK_mem hg).2]; exact hg
    have h1 := usedL_put (x := crashF more f) hg'
    simp only [crashF, List.length_take] at h1
    exact ⟨show usedL (putK Fil.name (crashF more f) fs) ≤ _ by simp only [crashF] at h1 ⊢; omega, h1.2⟩
theorem crashGo_size (ks : List Int) : ∀ (ns : List ByteArray) (i : Nat) (fs : List Fil), usedL (crashGo ks ns i fs) ≤ usedL fs ∧ (crashGo ks ns i fs).length = fs.length
  | [], _, _ => ⟨Nat.le_refl _, rfl⟩
  | n :: ns, i, fs => by
    obtain ⟨h1, h2⟩ := crashGo_size ks ns (i + 1) (crash1 (keepAt ks i) n fs)
    obtain ⟨h3, h4⟩ := crash1_size (keepAt ks i) n fs
    exact ⟨Nat.le_trans h1 h3, h2.trans h4⟩
theorem crash_size (t : Sto) (ks : List Int) : (t.crash ks).size ≤ t.size := by
  obtain ⟨h1, h2⟩ := crashGo_size ks t.names 0 t.fs
  simp only [Sto.size, Sto.crash]
  omega

/-! ### A run of calls -/
def LeftOkS (t : Sto) : Prop := t.armed = true → 0 ≤ t.left ∧ t.left ≤ 9223372036854775807
theorem LeftOk.of {d : SD} (h : LeftOkS d.sto) : LeftOk d := h
theorem Done.left {t : Sto} {r : Int × Sto} {n : Nat} (h : Done t r n) (hl : LeftOkS t) : LeftOkS r.2 := by
  cases h with
  | down hd hr => rw [hr]; exact hl
  | no hd c h0 h8 hr => rw [hr]; exact hl
  | falls hd ha hl' hr => rw [hr]; exact hl
  | yes hd ha t' hr hd' hq ha' hl' hs =>
    rw [hr]
    intro h
    change t'.armed = true at h
    change 0 ≤ t'.left ∧ t'.left ≤ 9223372036854775807
    rw [ha'] at h
    rw [hl', if_pos h]
    have := hl h
    have : t.left ≠ 0 := fun e => ha ⟨h, e⟩
    omega
theorem Done.size {t : Sto} {r : Int × Sto} {n : Nat} (h : Done t r n) : r.2.size ≤ t.size + n + 1 := by
  cases h with
  | down hd hr => rw [hr]; show t.size ≤ _; omega
  | no hd c h0 h8 hr => rw [hr]; show t.size ≤ _; omega
  | falls hd ha hl' hr => rw [hr]; show t.size ≤ _; omega
  | yes hd ha t' hr hd' hq ha' hl' hs => rw [hr]; exact hs
theorem Done.quota {t : Sto} {r : Int × Sto} {n : Nat} (h : Done t r n) : r.2.quota = t.quota := by
  cases h with
  | down hd hr => rw [hr]
  | no hd c h0 h8 hr => rw [hr]
  | falls hd ha hl' hr => rw [hr]
  | yes hd ha t' hr hd' hq ha' hl' hs => rw [hr]; exact hq
theorem doC_all (t : Sto) (p : PCall) (hl : LeftOkS t) (hp : p.N ≤ 9223372036854775807) : LeftOkS (t.doC p).2 ∧ (t.doC p).2.size ≤ t.size + p.Data.length + 1 ∧ (t.doC p).2.quota = t.quota := by
  by_cases hk : kindI p.Kind < 6
  · have D := doC_done t p hk
    exact ⟨D.left hl, D.size, D.quota⟩
  · obtain ⟨m, h7, hm⟩ := kindI_lt p.Kind
    have k2 : kindI p.Kind ≠ 2 := by omega
    have k3 : kindI p.Kind ≠ 3 := by omega
    have k4 : kindI p.Kind ≠ 4 := by omega
    have k5 : kindI p.Kind ≠ 5 := by omega
    unfold Sto.doC
    rw [if_neg k2, if_neg k3, if_neg k4, if_neg k5]
    by_cases k6 : kindI p.Kind = 6
    · rw [if_pos k6]
      refine ⟨fun h => ?_, ?_, rfl⟩
      · simp only [Sto.fuse, decide_eq_true_eq] at h ⊢
        omega
      · show t.size ≤ _; omega
    · have k7 : kindI p.Kind = 7 := by omega
      rw [if_neg k6, if_pos k7]
      exact ⟨fun h => (by cases h), Nat.le_trans (crash_size t _) (by omega), rfl⟩
structure Run (σ0 σ : Heap) (d : SD) (n : Nat) : Prop where
  st : St σ .rw d
  left : LeftOkS d.sto
  size : d.sto.size ≤ n
  ro : RoKeep σ0 σ
section
variable {σ0 σ σ' : Heap} {d : SD} {n : Nat}
theorem Run.more (h : Run σ0 σ d n) {m : Nat} (hm : n ≤ m) : Run σ0 σ d m := ⟨h.st, h.left, Nat.le_trans h.size hm, h.ro⟩
theorem Run.pre (h : Run σ0 σ d n) (hp : σ <+: σ') : Run σ0 σ' d n := ⟨h.st.pre hp, h.left, h.size, h.ro.trans (ro_pre hp)⟩
theorem Run.do_ (h : Run σ0 σ d n) (hn : n ≤ 900000) {c : law04_Call} {p : PCall} (hc : CallIs σ0 c p) :
    ∃ σ' d', w_law04_do (some (d.s, 0)) c σ = some ((d.sto.doC p).1, σ') ∧ Run σ0 σ' d' (n + 101) ∧ d'.sto = (d.sto.doC p).2 ∧ d'.s = d.s ∧ Fr σ d σ' d' := by
  have hs := h.size
  rw [d.size_sto] at hs
  obtain ⟨σ', d', r1, r2, r3, r4⟩ := w_law04_do_ex h.st (LeftOk.of h.left) (hc.keep h.ro) (by omega)
  obtain ⟨a1, a2, a3⟩ := doC_all d.sto p h.left hc.hi
  have := h.size
  have := hc.len
  exact ⟨σ', d', r1, ⟨r2, by rw [r4]; exact a1, by rw [r4]; omega, h.ro.trans (ro_fr r3 h.st)⟩, r4, r3.s, r3⟩
theorem Run.crash (h : Run σ0 σ d n) {keep : Sl} {ks : List Int} (hK : keep.Is eI64 σ0 ks) (hR : Ro σ0 keep) :
    ∃ σ' d', w_file_Store_Crash (some (d.s, 0)) keep σ = some ((), σ') ∧ Run σ0 σ' d' n ∧ d'.sto = d.sto.crash ks ∧ d'.s = d.s ∧ Fr σ d σ' d' := by
  obtain ⟨σ', d', r1, r2, r3, r4⟩ := w_file_Store_Crash_ex h.st (is_keep hK hR h.ro) ((hR.keep h.ro).out h.st)
  exact ⟨σ', d', r1, ⟨r2, by rw [r4]; exact fun h => (by cases h), by rw [r4]; exact Nat.le_trans (crash_size _ _) h.size, h.ro.trans (ro_fr r3 h.st)⟩, r4, r3.s, r3⟩
theorem Run.crash0 (h : Run σ0 σ d n) : ∃ σ' d', w_file_Store_Crash (some (d.s, 0)) ⟨none, 0, 0⟩ σ = some ((), σ') ∧ Run σ0 σ' d' n ∧ d'.sto = d.sto.crash [] ∧ d'.s = d.s ∧ Fr σ d σ' d' :=
  h.crash Sl.Is.nil (fun c hc => by cases hc)
theorem Run.append (h : Run σ0 σ d n) (hn : n ≤ 900000) {nm : ByteArray} {b : Sl} {xs : List UInt8} (hb : b.Is eU8 σ xs) (hout : ∀ c, b.b = some c → c ∉ d.foot) (hx : xs.length ≤ 900) :
    ∃ σ' d', w_file_Store_Append (some (d.s, 0)) nm b σ = some ((d.sto.append nm xs).1, σ') ∧ Run σ0 σ' d' (n + xs.length + 1) ∧ d'.sto = (d.sto.append nm xs).2 ∧ d'.s = d.s ∧ Fr σ d σ' d' := by
  have hs := h.size
  rw [d.size_sto] at hs
  obtain ⟨σ', d', r1, r2, r3, r4⟩ := w_file_Store_Append_ex h.st (LeftOk.of h.left) nm hb hout (by omega)
  have D := append_done d.sto nm xs
  have := h.size
  have := D.size
  exact ⟨σ', d', r1, ⟨r2, by rw [r4]; exact D.left h.left, by rw [r4]; omega, h.ro.trans (ro_fr r3 h.st)⟩, r4, r3.s, r3⟩
theorem Run.sync (h : Run σ0 σ d n) (nm : ByteArray) :
    ∃ σ' d', w_file_Store_Sync (some (d.s, 0)) nm σ = some ((d.sto.sync nm).1, σ') ∧ Run σ0 σ' d' (n + 1) ∧ d'.sto = (d.sto.sync nm).2 ∧ d'.s = d.s ∧ Fr σ d σ' d' := by
  obtain ⟨σ', d', r1, r2, r3, r4⟩ := w_file_Store_Sync_ex h.st (LeftOk.of h.left) nm
  have D := sync_done d.sto nm 0
  have := h.size
  have := D.size
  exact ⟨σ', d', r1, ⟨r2, by rw [r4]; exact D.left h.left, by rw [r4]; omega, h.ro.trans (ro_fr r3 h.st)⟩, r4, r3.s, r3⟩
theorem Run.fuse (h : Run σ0 σ d n) {k : Int} (hk : k ≤ 9223372036854775807) :
    ∃ σ' d', w_file_Store_Fuse (some (d.s, 0)) k σ = some ((), σ') ∧ Run σ0 σ' d' n ∧ d'.sto = d.sto.fuse k ∧ d'.s = d.s ∧ Fr σ d σ' d' := by
  obtain ⟨σ', d', r1, r2, r3, r4⟩ := w_file_Store_Fuse_ex h.st k
  refine ⟨σ', d', r1, ⟨r2, ?_, by rw [r4]; exact h.size, h.ro.trans (ro_fr r3 h.st)⟩, r4, r3.s, r3⟩
  rw [r4]
  intro h
  simp only [Sto.fuse, decide_eq_true_eq] at h ⊢
  omega
def readS (t : Sto) (n : ByteArray) : Int × List UInt8 := if t.down then (8, []) else match t.get n with
  | none => (4, [])
  | some f => (0, f.data)
theorem readV_sto (d : SD) (nm : ByteArray) : (readV d nm).1 = (readS d.sto nm).1 ∧ (readV d nm).2.2 = (readS d.sto nm).2 := by
  unfold readV readS
  cases hd : d.down with
  | true => simp [SD.sto, hd]
  | false =>
    have : d.sto.down = false := hd
    rw [this, d.get_sto]
    cases hg : d.get nm with
    | none => exact ⟨rfl, rfl⟩
    | some f => exact ⟨rfl, rfl⟩
theorem readV_len {d : SD} {nm : ByteArray} (h : St σ .rw d) : (readV d nm).2.2.length ≤ 1000000 ∧ ((readV d nm).2.1 = true → (readV d nm).2.2 = []) := by
  unfold readV
  cases hd : d.down with
  | true => exact ⟨Nat.zero_le _, fun _ => rfl⟩
  | false =>
    cases hg : d.get nm with
    | none => exact ⟨Nat.zero_le _, fun _ => rfl⟩
    | some f =>
      have hfm := (getK_mem hg).1
      have g := h.file f hfm
      have hl := usedF_mem hfm
      have := h.sz
      refine ⟨show f.data.length ≤ _ by omega, fun hb => ?_⟩
      have hi := g.is (m := .rw) trivial (by omega)
      have hb' : f.sl.b = none := by simpa using hb
      rcases hi.at_ with ⟨_, _, e⟩ | ⟨c, cs, e, _⟩
      · exact e
      · rw [hb'] at e; cases e
theorem Run.read (h : Run σ0 σ d n) (nm : ByteArray) : ∃ sl σ', w_file_Store_Read (some (d.s, 0)) nm σ = some ((sl, (readS d.sto nm).1), σ') ∧ sl.Is eU8 σ' (readS d.sto nm).2 ∧ Run σ0 σ' d n ∧ σ <+: σ' ∧ (∀ c, sl.b = some c → c ∉ d.foot) ∧ (∀ c, sl.b = some c → σ.length ≤ c) := by
  obtain ⟨e1, e2⟩ := readV_sto d nm
  obtain ⟨l1, l2⟩ := readV_len (nm := nm) h.st
  have A := fresh_own eU8 σ (readV d nm).2.1 (readV d nm).2.2 l2
  have AP := fresh_pre eU8 σ (readV d nm).2.1 (readV d nm).2.2
  have AN := fresh_new eU8 σ (readV d nm).2.1 (readV d nm).2.2
  refine ⟨_, _, ?_, ?_, h.pre AP, AP, fun c hc hm => ?_, AN⟩
  · rw [← e1]; exact w_file_Store_Read_eq (m := .rw) trivial h.st nm
  · rw [← e2]; exact A.is (by omega)
  · have := AN c hc; have := h.st.foot_lt hm; omega
theorem Run.new (q : Int) (hq : q ≤ 9223372036854775807) (σ : Heap) : ∃ σ' d, w_file_New q σ = some (some (d.s, 0), σ') ∧ Run σ σ' d 0 ∧ d.sto = sto0 q ∧ σ <+: σ' ∧ ∀ b ∈ d.foot, σ.length ≤ b := by
  obtain ⟨σ', d, r1, r2, r3, r4, r5⟩ := w_file_New_ex q hq σ
  exact ⟨σ', d, r1, ⟨r2, by rw [r5]; exact fun h => (by cases h), by rw [r5]; exact Nat.le_refl _, ro_pre r3⟩, r5, r3, r4⟩
theorem Run.used (h : Run σ0 σ d n) : w_file_Store_Used (some (d.s, 0)) σ = some ((d.sto.used : Int), σ) := by
  rw [d.used_sto]; exact w_file_Store_Used_eq (m := .rw) trivial h.st
theorem Run.up (h : Run σ0 σ d n) : w_file_Store_Up (some (d.s, 0)) σ = some (!d.sto.down, σ) := rdRel_eq (m := .rw) trivial h.st
end
end Go.Abs.TC
namespace Go.Abs.TC
open Go Go.Abs Go.Proofs

noncomputable def c_law04_fit : C_law04_fit := { file_New := w_file_New, file_Store_Crash := w_file_Store_Crash, file_Store_Append := w_file_Store_Append, file_Store_Read := w_file_Store_Read, file_Store_Used := w_file_Store_Used, file_Store_Up := w_file_Store_Up }
theorem sortN_one (a : ByteArray) : sortN [a] = [a] := by
  simp [sortN, List.mergeSort_singleton, bl, lb]
def strA : ByteArray := ⟨#[97]⟩
def t_fit : Sto := ⟨[⟨strA, [120, 121, 122], 0⟩], 9, false, 0, false⟩
def t_fit' : Sto := ⟨[⟨strA, [120], 1⟩], 9, false, 0, false⟩
theorem fit_append : (sto0 9).append strA [120, 121, 122] = (0, t_fit) := by kernel_rfl
theorem fit_crash : t_fit.crash [1] = t_fit' := by
  have h : t_fit.names = [strA] := sortN_one strA
  unfold Sto.crash
  have e : crashGo [1] [strA] 0 t_fit.fs = t_fit'.fs := by kernel_rfl
  rw [h, e]
  rfl
noncomputable def w_law04_fit (σ : Heap) : Option (Bool × Heap) := some (true, σ)
/-- What is apart from what was there. -/
structure Apart (σ0 σ : Heap) (d : SD) : Prop where
  len : σ0.length ≤ σ.length
  at_ : ∀ b, b < σ0.length → σ[b]? = σ0[b]?
  foot : ∀ b ∈ d.foot, σ0.length ≤ b
theorem Apart.fr {σ0 σ σ' : Heap} {d d' : SD} (h : Apart σ0 σ d) (k : Fr σ d σ' d') : Apart σ0 σ' d' :=
  ⟨Nat.le_trans h.len k.len, fun b hb => (k.at_ b (Nat.lt_of_lt_of_le hb h.len) fun hm => by have := h.foot b hm; omega).trans (h.at_ b hb), fun b hb => (k.foot b hb).elim (h.foot b) fun hl => Nat.le_trans h.len hl⟩
theorem Apart.pre {σ0 σ σ' : Heap} {d : SD} (h : Apart σ0 σ d) (k : σ <+: σ') : Apart σ0 σ' d :=
  ⟨Nat.le_trans h.len k.length_le, fun b hb => (get_pre k (Nat.lt_of_lt_of_le hb h.len)).trans (h.at_ b hb), h.foot⟩
theorem ok_law04_fit : Ok_law04_fit w_law04_fit := fun σ v σ' h => by
  injection h with h
  injection h with h1 h2
  subst h1; subst h2
  have p1 : c_law04_fit.file_New = w_file_New := rfl
  have p2 : c_law04_fit.file_Store_Crash = w_file_Store_Crash := rfl
  have p3 : c_law04_fit.file_Store_Append = w_file_Store_Append := rfl
  have p4 : c_law04_fit.file_Store_Read = w_file_Store_Read := rfl
  have p5 : c_law04_fit.file_Store_Used = w_file_Store_Used := rfl
  have p6 : c_law04_fit.file_Store_Up = w_file_Store_Up := rfl
  have hr := law04_fit_eq (R := AVal × Heap) c_law04_fit 0 σ fun v σ => some (v, σ)
  obtain ⟨σ1, d, a1, a2, a3, a4, a5⟩ := Run.new 9 (by decide) σ
  have aA : Apart σ σ1 d := ⟨a4.length_le, fun b hb => get_pre a4 hb, a5⟩
  have b2 := a2.pre (pre_push σ1 (.row [.int .u8 120, .int .u8 121, .int .u8 122] .rw))
  have bA := aA.pre (pre_push σ1 (.row [.int .u8 120, .int .u8 121, .int .u8 122] .rw))
  have hb : Sl.Is ⟨some σ1.length, 0, 3⟩ eU8 (σ1 ++ [.row [.int .u8 120, .int .u8 121, .int .u8 122] .rw]) [120, 121, 122] := (Sl.Own.row (E := eU8) (xs := [120, 121, 122]) σ1.length rfl rfl rfl (get_push ..)).is (by decide)
  obtain ⟨σ3, d3, c1, c2, c3, c4, c5⟩ := b2.append (by decide) (nm := strA) hb (fun c hc hm => by injection hc with hc; have := a2.st.foot_lt hm; omega) (by decide)
  have cA := bA.fr c5
  rw [a3, fit_append] at c1 c3
  have e2 := c2.pre (pre_push σ3 (.row [.int .i64 1] .rw))
  have eA := cA.pre (pre_push σ3 (.row [.int .i64 1] .rw))
  have he : Sl.Is ⟨some σ3.length, 0, 1⟩ eI64 (σ3 ++ [.row [.int .i64 1] .rw]) [1] := (Sl.Own.row (E := eI64) (xs := [1]) σ3.length rfl rfl rfl (get_push ..)).is (by decide)
  obtain ⟨σ5, d5, f1, f2, f5, f4⟩ := w_file_Store_Crash_ex e2.st he (fun c hc hm => by injection hc with hc; have := c2.st.foot_lt hm; omega)
  have fA := eA.fr f5
  rw [c3, fit_crash] at f4
  have hd : some (d5.s, 0) = some (d3.s, 0) := by rw [f5.s]
  have hd3 : some (d3.s, 0) = some (d.s, 0) := by rw [c4]
  have f6 : Run σ5 σ5 d5 100 := ⟨f2, by rw [f4]; exact fun h => (by cases h), by rw [f4]; decide, fun _ _ h => h⟩
  obtain ⟨sl, σ6, g1, g2, g3, g4, _⟩ := f6.read strA
  have gA := fA.pre g4
  have hu := g3.used
  have hup := g3.up
  have hS : readS t_fit' strA = (0, [120]) := by kernel_rfl
  rw [f4, hS] at g1 g2
  have hU : t_fit'.used = 1 := by kernel_rfl
  rw [f4, hU] at hu
  rw [f4] at hup
  rw [p1, a1, Option.bind_some, p3] at hr
  simp only [alloc, Option.isNone_some, cond_false] at hr
  rw [show Heap.rwRow (σ1 ++ [.row [.int .u8 120, .int .u8 121, .int .u8 122] .rw]) σ1.length = some () by unfold Heap.rwRow; rw [get_push], Option.bind_some] at hr
  unfold strA at c1 g1
  rw [c1, Option.bind_some, p2] at hr
  dsimp only at hr
  rw [← hd3, f1, Option.bind_some, p4, ← hd, g1, Option.bind_some] at hr
  dsimp only at hr
  rw [show (Heap.read σ6 sl.b sl.o sl.n 1) = some (eU8.all [120]) from g2.read, Option.bind_some, bytes_all, Option.bind_some, p5, hu, p6] at hr
  rw [beq_self_eq_true, cond_true, beq_self_eq_true, cond_true, cond_true, Option.bind_some] at hr
  dsimp only at hr
  rw [show (((1 : Nat) : Int) == 1) = true from rfl, cond_true] at hr
  rw [hup] at hr
  exact call_gc0 (call_ok ok (K_law04_fit c_law04_fit ok_file_New ok_file_Store_Crash ok_file_Store_Append ok_file_Store_Read ok_file_Store_Used ok_file_Store_Up) hr) gA.at_ trivial
theorem at_call {σ0 : Heap} {calls : Sl} {cs : List law04_Call} {ps : List PCall} (h : CallsIs σ0 calls cs ps) {i : Nat} (hi : i < cs.length) :
    ∃ (ck cn : Int) (cna cto : ByteArray) (cb : Option Nat) (co cl : Nat) (xs : List UInt8) (b : Nat), ps[i]? = some ⟨ck, cn, cna, cto, xs⟩ ∧ CallIs σ0 ⟨ck, cn, cna, cto, ⟨cb, co, cl⟩⟩ ⟨ck, cn, cna, cto, xs⟩ ∧ cl = xs.length ∧ calls.b = some b ∧
      ∀ σ, RoKeep σ0 σ → int? (σ.cell? b (calls.o + i * 5)) .i64 = some ck ∧ int? (σ.cell? b (calls.o + i * 5 + 1)) .i64 = some cn ∧ str? (σ.cell? b (calls.o + i * 5 + 2)) = some cna ∧ str? (σ.cell? b (calls.o + i * 5 + 3)) = some cto ∧
        slice? (σ.cell? b (calls.o + i * 5 + 4)) 1 = some (cb, co, cl) := by
  have hp : i < ps.length := by rw [← h.len]; exact hi
  have h1 := h.each i _ _ (List.getElem?_eq_getElem hi) (List.getElem?_eq_getElem hp)
  have h2 : ∀ σ, RoKeep σ0 σ → _ := fun σ hk => call_cells (h.keep hk).is (List.getElem?_eq_getElem hi)
  have e1 := List.getElem?_eq_getElem hp
  generalize ps[i] = p at h1 e1
  generalize cs[i] = c at h1 h2
  obtain ⟨ck, cn, cna, cto, ⟨cb, co, cl⟩⟩ := c
  obtain ⟨pk, pn, pna, pto, xs⟩ := p
  have q1 := h1.kind
  have q2 := h1.n
  have q3 := h1.name
  have q4 := h1.to
  have q5 := h1.data.n
  dsimp only at q1 q2 q3 q4 q5
  subst q1; subst q2; subst q3; subst q4
  obtain ⟨b, b1, _⟩ := h2 σ0 (fun _ _ h => h)
  refine ⟨ck, cn, cna, cto, cb, co, cl, xs, b, e1, h1, q5, b1, fun σ hk => ?_⟩
  obtain ⟨b', b2, b3⟩ := h2 σ hk
  rw [b1] at b2
  injection b2 with b2
  subst b2
  exact b3
/-- A slice that came in, and can only be read. -/
structure SlArg {α : Type} (E : El α) (σ : Heap) (s : Sl) (xs : List α) : Prop where
  n : s.n = xs.length
  is : xs.length ≤ 1099511627776 → s.Is E σ xs
  ro : Ro σ s
end Go.Abs.TC
