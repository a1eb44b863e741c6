/-
What the table says is the program's own; loads.
-/
import Derived.Test.YtcfohnfnajfahaaDoorAbs3
import Derived.Orders
namespace Go.Abs
open Go

def Sh.zeroOk : Sh → Value → Bool
  | .int k, .int k' n => decide (k = k') && decide (n = 0)
  | .bool, .bool b => !b
  | .str, .string s => decide (s.size = 0)
  | .ptr, .pointer none => true
  | .slice _, .slice none 0 0 => true
  | .map, .map none => true
  | .func, .nilFunc => true
  | .iface, .nilIface => true
  | _, _ => false
def zerosOk : List Sh → List Value → Bool
  | [], [] => true
  | s :: ss, v :: vs => s.zeroOk v && zerosOk ss vs
  | _, _ => false
def isAggV : Value → Bool | .agg _ => true | _ => false

def fieldsOk (P : Program) : List Field → List (Nat × TypeId) → Bool
  | [], [] => true
  | f :: fs, p :: ps => decide (f.offset = p.1) && decide (f.type = p.2) && (match P.info? f.type with | some i => decide (i.size ≠ 0) | none => false) && fieldsOk P fs ps
  | _, _ => false

def tkOk (P : Program) (T : Tab) (d : TypeDesc) (i : TI) : Bool :=
  match d, i.kind, i.shape with
  | .slice e, .slice e', [.slice z] => decide (e = e') && !i.agg && (match T.ti e with | some ie => decide (ie.size = z) | none => false)
  | .struct fs, .struct fs', _ => i.agg && fieldsOk P fs.toList fs'
  | .array n e, .array n' e', _ => i.agg && decide (n = n') && decide (e = e')
  | .map k e, .map k' e', [.map] => !i.agg && decide (k = k') && decide (e = e')
  | .int k, .scalar, [.int k'] => !i.agg && decide (k = k')
  | .bool, .scalar, [.bool] => !i.agg
  | .string, .scalar, [.str] => !i.agg
  | .pointer _, .scalar, [.ptr] => !i.agg
  | .func _ _ _, .scalar, [.func] => !i.agg
  | .interface _, .scalar, [.iface] => !i.agg
  | _, _, _ => false

def tiOk (P : Program) (T : Tab) (t : TypeId) (i : TI) : Bool :=
  match P.info? t, P.underlying t with
  | some inf, some d => decide (inf.size = i.shape.length) && decide (inf.bytes = i.bytes) &&
      (match inf.zero with | some z => zerosOk i.shape z.cells.toList && (isAggV z == i.agg) | none => false) && tkOk P T d i
  | _, _ => false

mutual
/-- May values of this type be held against each other cell by cell? -/
def eqOk (P : Program) : Nat → TypeId → List Sh → Bool
  | 0, _, _ => false
  | n + 1, t, ss =>
    match P.underlying t, P.info? t, ss with
    | some (.int k), some i, [.int k'] => decide (i.size = 1) && decide (k = k')
    | some .bool, some i, [.bool] => decide (i.size = 1)
    | some .string, some i, [.str] => decide (i.size = 1)
    | some (.struct fs), some i, ss => !P.stoodInHeld t && decide (ss.length = i.size) && eqFs P n fs.toList 0 ss
    | _, _, _ => false
def eqFs (P : Program) : Nat → List Field → Nat → List Sh → Bool
  | _, [], _, ss => ss.isEmpty
  | 0, _ :: _, _, _ => false
  | n + 1, f :: fs, o, ss => (f.name != "_") && decide (f.offset = o) &&
      (match P.info? f.type with | some i => decide (i.size ≤ ss.length) && decide (1 ≤ i.size) && eqOk P n f.type (ss.take i.size) && eqFs P n fs (o + i.size) (ss.drop i.size) | none => false)
end

def hasEdge (o : Oper) (m : Nat) : Bool := o.after.toList.any fun e => Region.binds .any e && e.on == m
def apartDst : Option Nat → Option Nat → Bool
  | some d, some d' => d != d'
  | _, _ => true
/-- The operations that come before this one, as bits; 'ancs': those of the ones before it, the last one first. -/
def maskOf (i : Nat) (ancs : List Nat) : List Edge → Nat → Nat
  | [], acc => acc
  | e :: es, acc => match Region.binds .any e with
    | true => maskOf i ancs es (acc ||| (1 <<< e.on) ||| ancs.getD (i - 1 - e.on) 0)
    | false => maskOf i ancs es acc
/-- Whichever order the tape draws: the marked operations can change places, all others stand. -/
def goodGo (ops : Array Oper) (h : Nat) : Nat → Option Nat → List (Nat × Oper) → List Nat → List Bool → List Oper → Bool
  | _, _, _, _, _, [] => true
  | i, bar, seg, ancs, qs, o :: os =>
    (o.after.toList.all fun e => !Region.binds .any e || decide (e.on < i)) &&
    (match bar with | some b => (maskOf i ancs o.after.toList 0).testBit b | none => true) &&
    match qs.headD false with
    | true => (seg.all fun p => ((maskOf i ancs o.after.toList 0).testBit p.1 || p.2.apart ops o) && apartDst p.2.dst o.dst) && goodGo ops h (i + 1) bar ((i, o) :: seg) (maskOf i ancs o.after.toList 0 :: ancs) qs.tail os
    | false => ((List.range i).all fun m => decide (m < h) || (maskOf i ancs o.after.toList 0).testBit m) && goodGo ops h (i + 1) (some i) [] (maskOf i ancs o.after.toList 0 :: ancs) qs.tail os
/-- Values that are kept at the beginning: nothing is lost if they are first. -/
def isLead (q : Bool) (o : Oper) : Bool := !q && o.guard.isNone && match o.op with | .move _ => true | _ => false
def leadN : List Bool → List Oper → Nat
  | qs, o :: os => match isLead (qs.headD false) o with | true => leadN qs.tail os + 1 | false => 0
  | _, [] => 0
def leadOk (ops : Array Oper) : Nat → Nat → List Oper → Bool
  | 0, _, _ => true
  | h + 1, i, o :: os => (o.after.toList.all fun e => !Region.binds .any e || decide (e.on < i)) && (os.all fun o' => hasEdge o' i || o.apart ops o') && leadOk ops h (i + 1) os
  | _ + 1, _, [] => true
def goodReg (ops : Array Oper) (qs : List Bool) : Bool :=
  Region.noSelect ops && leadOk ops (leadN qs ops.toList) 0 ops.toList &&
    goodGo ops (leadN qs ops.toList) (leadN qs ops.toList) none [] (List.replicate (leadN qs ops.toList) 0) (qs.drop (leadN qs ops.toList)) (ops.toList.drop (leadN qs ops.toList))
def goodCode (T : Tab) (f : FuncId) : Code → Bool
  | .region id ops draw => match draw with | true => goodReg ops (T.quiet f id) | false => true
  | .seq a b => goodCode T f a && goodCode T f b
  | .cond _ a b => goodCode T f a && goodCode T f b
  | .block _ c => goodCode T f c
  | .loop c => goodCode T f c
  | _ => true

structure TabOK (P : Program) (T : Tab) : Prop where
  ti : ∀ t i, T.ti t = some i → tiOk P T t i = true
  fn : ∀ f fn, T.fn f = some fn → P.funcs[f]? = some fn ∧ (fn.name == "runtime.NumGoroutine") = false
  eq : ∀ t i, T.eq t = true → T.ti t = some i → eqOk P 40 t i.shape = true ∧ P.eqGuardType P.depth t = false
  mixed : P.follows .mixedOrders = true
  good : ∀ f fn c, T.fn f = some fn → fn.body = some c → goodCode T f c = true

theorem ba_empty {s : ByteArray} (h : s.size = 0) : s = ⟨#[]⟩ := by
  cases s with
  | mk d =>
    congr
    exact Array.eq_empty_of_size_eq_zero h

theorem Sh.zeroOk_rel {s : Sh} {v : Value} (h : s.zeroOk v = true) (ρ : Mp) (lm : Lp) : VRel ρ lm s.zero v := by
  unfold Sh.zeroOk at h
  split at h
  · simp only [Bool.and_eq_true, decide_eq_true_eq] at h
    simp only [Sh.zero, VRel]
    rw [h.1, h.2]
  · simp only [Sh.zero, VRel]
    simpa using h
  · simp only [Sh.zero, VRel]
    rw [ba_empty (of_decide_eq_true h)]
  · simp only [Sh.zero, VRel]
  · simp only [Sh.zero, VRel]
    exact ⟨trivial, trivial, trivial⟩
  · simp only [Sh.zero, VRel]
  · simp only [Sh.zero, VRel]
  · simp only [Sh.zero, VRel]
  · cases h

theorem zerosOk_rel : ∀ {ss : List Sh} {vs : List Value}, zerosOk ss vs = true → ∀ (ρ : Mp) (lm : Lp), VRels ρ lm (ss.map Sh.zero) vs
  | [], [], _, _, _ => by simp [VRels]
  | [], _ :: _, h, _, _ => by simp [zerosOk] at h
  | _ :: _, [], h, _, _ => by simp [zerosOk] at h
  | s :: ss, v :: vs, h, ρ, lm => by
    simp only [zerosOk, Bool.and_eq_true] at h
    simp only [List.map_cons, VRels]
    exact ⟨v, vs, rfl, Sh.zeroOk_rel h.1 ρ lm, zerosOk_rel h.2 ρ lm⟩

theorem Sh.zeroOk_one {s : Sh} {v : Value} (h : s.zeroOk v = true) : v.oneCell' = true := by
  unfold Sh.zeroOk at h
  split at h <;> first | rfl | (cases h)
theorem zerosOk_ones : ∀ {ss : List Sh} {vs : List Value}, zerosOk ss vs = true → ∀ v ∈ vs, v.oneCell' = true
  | [], [], _, v, hv => by cases hv
  | [], _ :: _, h, _, _ => by simp [zerosOk] at h
  | _ :: _, [], h, _, _ => by simp [zerosOk] at h
  | s :: ss, u :: us, h, v, hv => by
    simp only [zerosOk, Bool.and_eq_true] at h
    rcases List.mem_cons.1 hv with rfl | hv
    · exact Sh.zeroOk_one h.1
    · exact zerosOk_ones h.2 v hv

/-- What is known of a type of the table. -/
structure TIs (P : Program) (T : Tab) (t : TypeId) (i : TI) (inf : TypeInfo) (d : TypeDesc) (z : Value) : Prop where
  info : P.info? t = some inf
  und : P.underlying t = some d
  size : inf.size = i.size
  bytes : inf.bytes = i.bytes
  zero : inf.zero = some z
  rel : ∀ (ρ : Mp) (lm : Lp), VRels ρ lm i.zeros z.cells.toList
  zagg : isAggV z = i.agg
  ones : Ones z.cells
  kind : tkOk P T d i = true

theorem TabOK.tis {P : Program} {T : Tab} (ok : TabOK P T) {t : TypeId} {i : TI} (h : T.ti t = some i) : ∃ inf d z, TIs P T t i inf d z := by
  have h := ok.ti t i h
  unfold tiOk at h
  split at h
  · rename_i inf d h1 h2
    simp only [Bool.and_eq_true, decide_eq_true_eq] at h
    obtain ⟨⟨⟨a1, a2⟩, a3⟩, a4⟩ := h
    split at a3
    · rename_i z hz
      simp only [Bool.and_eq_true, beq_iff_eq] at a3
      exact ⟨inf, d, z, h1, h2, a1, a2, hz, zerosOk_rel a3.1, a3.2, zerosOk_ones a3.1, a4⟩
    · cases a3
  · cases h

section
variable {P : Program} {T : Tab} {t : TypeId} {i : TI} {inf : TypeInfo} {d : TypeDesc} {z : Value}
theorem TIs.run_typeInfo (h : TIs P T t i inf d z) (w : World) : (typeInfo t).run P w = .ok inf w := by simp [typeInfo, h.info]
theorem TIs.run_underlying (h : TIs P T t i inf d z) (w : World) : (underlying t).run P w = .ok d w := Go.run_underlying h.und w
theorem TIs.run_sizeOf (h : TIs P T t i inf d z) (w : World) : (sizeOf t).run P w = .ok i.size w := by simp [sizeOf, h.run_typeInfo, h.size]
theorem TIs.run_zeroValue (h : TIs P T t i inf d z) (w : World) : (zeroValue t).run P w = .ok z w := by simp [zeroValue, h.run_typeInfo, h.zero]
theorem TIs.run_isAgg (h : TIs P T t i inf d z) (w : World) : (isAgg t).run P w = .ok i.agg w := by
  have hk := h.kind
  unfold tkOk at hk
  unfold isAgg
  simp only [Sem.run_bind, h.run_underlying, Result.andThen_ok]
  split at hk <;> simp_all
theorem TIs.slice (h : TIs P T t i inf d z) {e : TypeId} (hk : i.kind = .slice e) : d = .slice e ∧ i.agg = false ∧ ∃ ie, T.ti e = some ie ∧ i.shape = [.slice ie.size] := by
  have h' := h.kind
  unfold tkOk at h'
  rw [hk] at h'
  split at h' <;> rename_i hs he <;> try (first | (cases h'; done) | (cases he; done) | (cases hs; done))
  rename_i e1 e2 z1
  simp only [Bool.and_eq_true, Bool.not_eq_true', decide_eq_true_eq] at h'
  obtain ⟨⟨e3, e4⟩, e5⟩ := h'
  injection hs with hs
  subst e3; subst hs
  split at e5
  · rename_i ie hie
    simp only [decide_eq_true_eq] at e5
    exact ⟨rfl, e4, ie, hie, by rw [he, e5]⟩
  · cases e5
theorem TIs.arr (h : TIs P T t i inf d z) {n : Nat} {e : TypeId} (hk : i.kind = .array n e) : d = .array n e ∧ i.agg = true := by
  have h' := h.kind
  unfold tkOk at h'
  rw [hk] at h'
  split at h' <;> simp_all
theorem TIs.struct (h : TIs P T t i inf d z) {fs : List (Nat × TypeId)} (hk : i.kind = .struct fs) : ∃ fs', d = .struct fs' ∧ i.agg = true ∧ fieldsOk P fs'.toList fs = true := by
  have h' := h.kind
  unfold tkOk at h'
  rw [hk] at h'
  split at h' <;> simp_all
theorem TIs.int (h : TIs P T t i inf d z) {k : IntKind} (hk : i.shape = [.int k]) (ha : i.agg = false) : d = .int k := by
  have h' := h.kind
  unfold tkOk at h'
  rw [hk] at h'
  split at h' <;> simp_all
theorem TIs.bool (h : TIs P T t i inf d z) (hk : i.shape = [.bool]) (ha : i.agg = false) : d = .bool := by
  have h' := h.kind
  unfold tkOk at h'
  rw [hk] at h'
  split at h' <;> simp_all
theorem TIs.ptr (h : TIs P T t i inf d z) (hk : i.shape = [.ptr]) (ha : i.agg = false) : ∃ e, d = .pointer e := by
  have h' := h.kind
  unfold tkOk at h'
  rw [hk] at h'
  split at h' <;> simp_all
theorem TIs.aggStruct (h : TIs P T t i inf d z) (hq : eqOk P 40 t i.shape = true) (ha : i.agg = true) : ∃ fs, d = .struct fs := by
  unfold eqOk at hq
  split at hq
  · rename_i h1 h2 h3
    have h' := h.kind
    rw [h.und] at h1; injection h1 with h1; subst h1
    unfold tkOk at h'
    split at h' <;> simp_all
  · rename_i h1 h2 h3
    have h' := h.kind
    rw [h.und] at h1; injection h1 with h1; subst h1
    unfold tkOk at h'
    split at h' <;> simp_all
  · rename_i h1 h2 h3
    have h' := h.kind
    rw [h.und] at h1; injection h1 with h1; subst h1
    unfold tkOk at h'
    split at h' <;> simp_all
  · rename_i fs _ h1 h2
    rw [h.und] at h1; injection h1 with h1
    exact ⟨fs, h1⟩
  · cases hq
theorem TIs.str (h : TIs P T t i inf d z) (hk : i.shape = [.str]) (ha : i.agg = false) : d = .string := by
  have h' := h.kind
  unfold tkOk at h'
  rw [hk] at h'
  split at h' <;> simp_all
end

theorem exists_list {α : Type} (p : Nat → α → Prop) : ∀ (n : Nat), (∀ m, m < n → ∃ v, p m v) → ∃ l : List α, l.length = n ∧ ∀ m v, l[m]? = some v → p m v
  | 0, _ => ⟨[], rfl, fun m v h => by simp at h⟩
  | n + 1, h => by
    obtain ⟨l, hl, hp⟩ := exists_list p n fun m hm => h m (by omega)
    obtain ⟨v, hv⟩ := h n (by omega)
    refine ⟨l ++ [v], by simp [hl], fun m u hm => ?_⟩
    rw [getElem?_snoc] at hm
    by_cases e : m = l.length
    · rw [if_pos e] at hm
      injection hm with hm
      subst hm
      rw [e, hl]; exact hv
    · rw [if_neg e] at hm
      exact hp m u hm

/-! ### Values told by their kinds -/
def Refines (x y : AVal) : Prop := ∀ (ρ : Mp) (lm : Lp) (v : Value), VRel ρ lm x v → VRel ρ lm y v
theorem Refines.refl (x : AVal) : Refines x x := fun _ _ _ h => h

variable {R : Type}
theorem fetch_some {s : Sh} {x : Option AVal} {k : AVal → Option R} {r : R} (h : s.fetch x k = some r) : ∃ y z, x = some y ∧ Refines y z ∧ k z = some r := by
  cases s <;> simp only [Sh.fetch] at h <;> obtain ⟨q, hq, hk⟩ := Option.bind_eq_some_iff.1 h
  case int k0 =>
    unfold int? at hq
    split at hq
    · rename_i k' n
      split at hq
      · rename_i e
        injection hq with hq
        subst hq; subst e
        exact ⟨_, _, rfl, Refines.refl _, hk⟩
      · cases hq
    · cases hq
  case bool =>
    unfold bool? at hq
    split at hq
    · injection hq with hq; subst hq; exact ⟨_, _, rfl, Refines.refl _, hk⟩
    · cases hq
  case str =>
    unfold str? at hq
    split at hq
    · injection hq with hq; subst hq; exact ⟨_, _, rfl, Refines.refl _, hk⟩
    · cases hq
  case ptr =>
    unfold ptr? at hq
    split at hq
    · injection hq with hq; subst hq; exact ⟨_, _, rfl, Refines.refl _, hk⟩
    · cases hq
  case map =>
    unfold map? at hq
    split at hq
    · injection hq with hq; subst hq; exact ⟨_, _, rfl, Refines.refl _, hk⟩
    · cases hq
  case func =>
    unfold func? at hq
    split at hq
    · injection hq with hq; subst hq; exact ⟨_, _, rfl, Refines.refl _, hk⟩
    · injection hq with hq; subst hq; exact ⟨_, _, rfl, Refines.refl _, hk⟩
    · cases hq
  case iface =>
    unfold iface? at hq
    split at hq
    · injection hq with hq; subst hq; exact ⟨_, _, rfl, Refines.refl _, hk⟩
    · injection hq with hq; subst hq; exact ⟨_, _, rfl, Refines.refl _, hk⟩
    · cases hq
  case slice z =>
    unfold slice? at hq
    split at hq
    · split at hq
      · rename_i e
        simp only [decide_eq_true_eq] at e
        injection hq with hq
        subst hq; subst e
        exact ⟨_, _, rfl, Refines.refl _, hk⟩
      · split at hq
        · injection hq with hq
          subst hq
          refine ⟨_, _, rfl, fun ρ lm v hv => ?_, hk⟩
          simpa only [VRel] using hv
        · cases hq
    · cases hq

theorem fetches_some : ∀ {ss : List Sh} {g : Nat → Option AVal} {j : Nat} {k : List AVal → Option R} {r : R}, fetches ss g j k = some r →
    ∃ zs, k zs = some r ∧ zs.length = ss.length ∧ ∀ m z, zs[m]? = some z → ∃ y, g (j + m) = some y ∧ Refines y z
  | [], _, _, _, _, h => ⟨[], h, rfl, fun m z hz => by simp at hz⟩
  | s :: ss, g, j, k, r, h => by
    simp only [fetches] at h
    obtain ⟨y, z, hy, hr, h⟩ := fetch_some h
    obtain ⟨zs, hk, hl, hz⟩ := fetches_some h
    refine ⟨z :: zs, hk, by simp [hl], fun m u hu => ?_⟩
    cases m with
    | zero => simp at hu; subst hu; exact ⟨y, hy, hr⟩
    | succ m =>
      obtain ⟨y', h1, h2⟩ := hz m u (by simpa using hu)
      exact ⟨y', by rw [show j + (m + 1) = j + 1 + m by omega]; exact h1, h2⟩

end Go.Abs
