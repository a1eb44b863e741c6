/-
Each operation: moves, numbers, loads, addresses.
-/
import Derived.Test.YtcfohnfnajfahaaDoorAbs6
namespace Go.Abs
open Go

def Snd (P : Program) (T : Tab) (o : Oper) (e : Env) (l : Locs) (σ : Heap) {R : Type} (k : AVal → Locs → Heap → Option R) (r : R) : Prop :=
  ∃ v l' σ', k v l' σ' = some r ∧ OpSound P T o e l σ v l' σ'

section
variable {P : Program} {T : Tab} {R : Type} {o : Oper} {e : Env} {l : Locs} {σ : Heap} {k : AVal → Locs → Heap → Option R} {r : R}

theorem fixV_rel {t : TypeId} {ρ : Mp} {lm : Lp} {x : AVal} {v : Value} (h : VRel ρ lm x v) : VRel ρ lm (fixV T t x) v := by
  unfold fixV
  split
  · split
    · split
      · split
        · simpa only [VRel] using h
        · exact h
      · exact h
    · exact h
  · exact h
theorem snd_move {x : Operand} (hop : o.op = .move x) (h : k (fixV T o.type (ev T e x)) l σ = some r) : Snd P T o e l σ k r :=
  ⟨_, _, _, h, .pure fun ρ lm a w _ _ ho => ⟨a.eval x, by simp [execOp, hop], fixV_rel (ho x (by simp [hop, Op.operands]))⟩⟩
theorem snd_assign {x : Operand} (hop : o.op = .assign x) (h : k (fixV T o.type (ev T e x)) l σ = some r) : Snd P T o e l σ k r :=
  ⟨_, _, _, h, .pure fun ρ lm a w _ _ ho => ⟨a.eval x, by simp [execOp, hop], fixV_rel (ho x (by simp [hop, Op.operands]))⟩⟩

theorem pickB_some {c a b : AVal} {k : AVal → Option R} (h : pickB c a b k = some r) : ∃ t v, c = .bool t ∧ k v = some r ∧ ∀ (ρ : Mp) (lm : Lp) (u : Value), VRel ρ lm (if t then a else b) u → VRel ρ lm v u := by
  unfold pickB at h
  split at h
  · rename_i t
    split at h
    · refine ⟨t, _, rfl, h, fun ρ lm u hu => ?_⟩
      cases t <;> simpa using hu
    · split at h
      · rename_i e
        subst e
        refine ⟨t, _, rfl, h, fun ρ lm u hu => ?_⟩
        cases t <;> simpa using hu
      · cases h
    · cases t
      · exact ⟨false, _, rfl, h, fun ρ lm u hu => by simpa using hu⟩
      · exact ⟨true, _, rfl, h, fun ρ lm u hu => by simpa using hu⟩
  · cases h

theorem snd_pick {c a b : Operand} (hop : o.op = .pick c a b) (h : (pickB (ev T e c) (ev T e a) (ev T e b) fun v => k v l σ) = some r) : Snd P T o e l σ k r := by
  obtain ⟨t, v, hc, hk, hv⟩ := pickB_some h
  refine ⟨v, l, σ, hk, .pure fun ρ lm A w _ _ ho => ?_⟩
  have h1 := ho c (by simp [hop, Op.operands])
  have h2 := ho a (by simp [hop, Op.operands])
  have h3 := ho b (by simp [hop, Op.operands])
  rw [hc] at h1
  simp only [VRel] at h1
  refine ⟨if t then A.eval a else A.eval b, by simp [execOp, hop, h1, asBool], hv ρ lm _ ?_⟩
  cases t
  · simpa using h3
  · simpa using h2

/-- A number, a bool, a text as it is in the model. -/
def embS : AVal → Value
  | .bool b => .bool b
  | .int k n => .int k n
  | .str s => .string s
  | _ => Go.undef

theorem snd_unOp {op : UnOp} {t : TypeId} {x : Operand} (hop : o.op = .unOp op t x) (h : ((unC op (ev T e x)).bind fun v => k v l σ) = some r) : Snd P T o e l σ k r := by
  obtain ⟨v, hv, hk⟩ := Option.bind_eq_some_iff.1 h
  refine ⟨v, l, σ, hk, .pure fun ρ lm A w _ _ ho => ⟨embS v, ?_⟩⟩
  have h1 := ho x (by simp [hop, Op.operands])
  unfold unC at hv
  split at hv
  · rename_i b hx
    rw [hx] at h1
    simp only [VRel] at h1
    injection hv with hv
    subst hv
    exact ⟨by simp [execOp, hop, h1, Op.unary, embS], by simp [VRel, embS]⟩
  · rename_i kd n hx
    rw [hx] at h1
    simp only [VRel] at h1
    injection hv with hv
    subst hv
    exact ⟨by simp [execOp, hop, h1, Op.unary, Op.intArith, embS], by simp [VRel, embS]⟩
  · rename_i kd n hx
    rw [hx] at h1
    simp only [VRel] at h1
    injection hv with hv
    subst hv
    exact ⟨by simp [execOp, hop, h1, Op.unary, Op.intBits, embS], by simp [VRel, embS]⟩
  · cases hv

theorem intBin_run {op : BinOp} {kd : IntKind} {a b : Int} {v : AVal} {P : Program} (h : intBin op kd a b = some v) (t : TypeId) (w : World) :
    (binOp op t (.int kd a) (.int kd b)).run P w = .ok (embS v) w ∧ ∀ (ρ : Mp) (lm : Lp), VRel ρ lm v (embS v) := by
  cases op <;> simp only [intBin] at h <;> try (cases h; done)
  all_goals first
    | (injection h with h
       subst h
       exact ⟨by simp [binOp, Op.intArith, Op.intBits, Op.intCmp, embS], fun ρ lm => by simp [VRel, embS]⟩)
    | (split at h
       · cases h
       · rename_i hb
         injection h with h
         subst h
         exact ⟨by simp [binOp, Op.intDiv, hb, embS], fun ρ lm => by simp [VRel, embS]⟩)

theorem strBin_run {op : BinOp} {a b : ByteArray} {v : AVal} {P : Program} (h : strBin op a b = some v) (t : TypeId) (w : World) :
    (binOp op t (.string a) (.string b)).run P w = .ok (embS v) w ∧ ∀ (ρ : Mp) (lm : Lp), VRel ρ lm v (embS v) := by
  cases op <;> simp only [strBin] at h <;> try (cases h; done)
  all_goals first
    | (injection h with h
       subst h
       exact ⟨by simp [binOp, Op.stringOp, embS], fun ρ lm => by simp [VRel, embS]⟩)
    | (split at h
       · rename_i hb
         injection h with h
         subst h
         refine ⟨?_, fun ρ lm => by simp [VRel, embS]⟩
         simp only [binOp, Op.stringOp]
         have e63 : IntKind.i64.max = 9223372036854775807 := by decide
         rw [if_neg (by rw [e63]; omega)]
         rfl
       · cases h)

theorem equal_eq (t : TypeId) (x y : Value) : Op.equal t x y = Op.equalIn (9999 + 1) t x y := rfl
theorem run_equalIn_slice {P : Program} {t et : TypeId} (h : P.underlying t = some (.slice et)) (D : Nat) (a : Option Addr) (n c : Nat) (w : World) :
    (Op.equalIn (D + 1) t (.slice a n c) (.slice none 0 0)).run P w = .ok a.isNone w := by
  cases a <;> simp [Op.equalIn, run_underlying h]
theorem run_equalIn_ptr {P : Program} {t et : TypeId} (h : P.underlying t = some (.pointer et)) (D : Nat) (a : Option Addr) (w : World) :
    (Op.equalIn (D + 1) t (.pointer a) (.pointer none)).run P w = .ok a.isNone w := by
  cases a <;> simp [Op.equalIn, run_underlying h]

/-- '==' or '!=' where the model asks 'equal'. -/
theorem isNil_run {P : Program} {op : BinOp} {b : Bool} {v : AVal} (h : isNilBin op b = some v) {t : TypeId} {x y : Value} {w : World} (hq : (Op.equal t x y).run P w = .ok b w)
    (hb : binOp .eql t x y = do pure (.bool (← Op.equal t x y))) (hb' : binOp .neq t x y = do pure (.bool (!(← Op.equal t x y)))) :
    (binOp op t x y).run P w = .ok (embS v) w ∧ ∀ (ρ : Mp) (lm : Lp), VRel ρ lm v (embS v) := by
  unfold isNilBin at h
  split at h
  · injection h with h; subst h
    rw [hb, Sem.run_bind, hq]
    exact ⟨rfl, fun ρ lm => by simp [VRel, embS]⟩
  · injection h with h; subst h
    rw [hb', Sem.run_bind, hq]
    exact ⟨rfl, fun ρ lm => by simp [VRel, embS]⟩
  · cases h

theorem bin_struct (ok : TabOK P T) {op : BinOp} {t : TypeId} {xs ys : List AVal} {v : AVal} {i : TI} {b : Bool} (hq : T.eq t = true) (hi : T.ti t = some i) (ha : i.agg = true) (hb : eqCells i.shape xs ys = some b) (h : isNilBin op b = some v)
    {ρ : Mp} {lm : Lp} {x y : Value} (hx : VRel ρ lm (.agg xs) x) (hy : VRel ρ lm (.agg ys) y) (u u' : Operand) (w : World) :
    (do eqGuard op t u u' x y; binOp op t x y : Sem Value).run P w = .ok (embS v) w ∧ VRel ρ lm v (embS v) := by
  obtain ⟨inf, d, z, ti⟩ := ok.tis hi
  obtain ⟨q1, q2⟩ := ok.eq t i hq hi
  obtain ⟨vx, ex, rx⟩ := by simpa only [VRel] using hx
  obtain ⟨vy, ey, ry⟩ := by simpa only [VRel] using hy
  subst ex; subst ey
  have hv := eqCells_eqV hb rx ry
  obtain ⟨fs, rfl⟩ := ti.aggStruct q1 ha
  have hval : ∀ cs : List Value, valOf P t cs = .agg cs.toArray := fun cs => by simp [valOf, ti.und]
  have hrun := (eq_run w 40).1 t i.shape q1 10000 (by omega) vx vy b hv
  rw [hval, hval] at hrun
  rw [Sem.run_bind, run_eqGuard_agg w op t u u' _ _ q2, Result.andThen_ok]
  obtain ⟨h1, h2⟩ := isNil_run (P := P) (w := w) (t := t) (x := .agg vx.toArray) (y := .agg vy.toArray) h hrun rfl rfl
  exact ⟨h1, h2 ρ lm⟩

theorem bin_slice (ok : TabOK P T) {op : BinOp} {t : TypeId} {b : Option Nat} {o1 n1 z1 o2 n2 z2 : Nat} {v : AVal} {i : TI} {et : TypeId} (hi : T.ti t = some i) (hk : i.kind = .slice et) (h : isNilBin op b.isNone = some v)
    {ρ : Mp} {lm : Lp} {x y : Value} (hx : VRel ρ lm (.slice b o1 n1 z1) x) (hy : VRel ρ lm (.slice none o2 n2 z2) y) (u u' : Operand) (w : World) :
    (do eqGuard op t u u' x y; binOp op t x y : Sem Value).run P w = .ok (embS v) w ∧ VRel ρ lm v (embS v) := by
  obtain ⟨inf, d, z, ti⟩ := ok.tis hi
  obtain ⟨rfl, _, _⟩ := ti.slice hk
  have hy' : y = .slice none 0 0 := by simp only [VRel] at hy; exact hy.2.2
  subst hy'
  obtain ⟨a, n, c, rfl, hab⟩ : ∃ a n c, x = .slice a n c ∧ a.isNone = b.isNone := by
    cases b with
    | none => simp only [VRel] at hx; exact ⟨_, _, _, hx.2.2, rfl⟩
    | some b => simp only [VRel] at hx; obtain ⟨_, _, _, _, h, _⟩ := hx; exact ⟨_, _, _, h, rfl⟩
  rw [eqGuard_at_slice, pure_bind]
  rw [← hab] at h
  obtain ⟨h1, h2⟩ := isNil_run (P := P) (w := w) (t := t) (x := .slice a n c) (y := .slice none 0 0) h (by rw [equal_eq]; exact run_equalIn_slice ti.und _ a n c w) rfl rfl
  exact ⟨h1, h2 ρ lm⟩

theorem bin_ptr (ok : TabOK P T) {op : BinOp} {t : TypeId} {p : Option (Nat × Nat)} {v : AVal} {i : TI} (hi : T.ti t = some i) (ha : i.agg = false) (hs : i.shape = [.ptr]) (h : isNilBin op p.isNone = some v)
    {ρ : Mp} {lm : Lp} {x y : Value} (hx : VRel ρ lm (.ptr p) x) (hy : VRel ρ lm (.ptr none) y) (u u' : Operand) (w : World) :
    (do eqGuard op t u u' x y; binOp op t x y : Sem Value).run P w = .ok (embS v) w ∧ VRel ρ lm v (embS v) := by
  obtain ⟨inf, d, z, ti⟩ := ok.tis hi
  obtain ⟨pe, rfl⟩ := ti.ptr hs ha
  have hy' : y = .pointer none := by simpa only [VRel] using hy
  subst hy'
  obtain ⟨a, rfl, hab⟩ : ∃ a, x = .pointer a ∧ a.isNone = p.isNone := by
    cases p with
    | none => simp only [VRel] at hx; exact ⟨_, hx, rfl⟩
    | some p => obtain ⟨b, o⟩ := p; simp only [VRel] at hx; obtain ⟨_, _, h⟩ := hx; exact ⟨_, h, rfl⟩
  rw [eqGuard_at_pointer, pure_bind]
  rw [← hab] at h
  obtain ⟨h1, h2⟩ := isNil_run (P := P) (w := w) (t := t) (x := .pointer a) (y := .pointer none) h (by rw [equal_eq]; exact run_equalIn_ptr ti.und _ a w) rfl rfl
  exact ⟨h1, h2 ρ lm⟩

theorem binC_run (ok : TabOK P T) {op : BinOp} {t : TypeId} {X Y v : AVal} (h : binC op (T.ti t) (T.eq t) X Y = some v)
    {ρ : Mp} {lm : Lp} {x y : Value} (hx : VRel ρ lm X x) (hy : VRel ρ lm Y y) (u u' : Operand) (w : World) :
    (do eqGuard op t u u' x y; binOp op t x y : Sem Value).run P w = .ok (embS v) w ∧ VRel ρ lm v (embS v) := by
  unfold binC at h
  split at h
  · -- numbers
    rename_i kd a kd' b
    simp only [VRel] at hx hy
    subst hx; subst hy
    rw [eqGuard_at_int, pure_bind]
    split at h
    · split at h
      · cases h
      · rename_i hb
        injection h with h
        subst h
        exact ⟨by simp [binOp, Op.shift, hb, embS], by simp [VRel, embS]⟩
    · split at h
      · cases h
      · rename_i hb
        injection h with h
        subst h
        exact ⟨by simp [binOp, Op.shift, hb, embS], by simp [VRel, embS]⟩
    · split at h
      · rename_i e
        subst e
        obtain ⟨h1, h2⟩ := intBin_run (P := P) h t w
        exact ⟨h1, h2 ρ lm⟩
      · cases h
  · rename_i a b
    simp only [VRel] at hx hy
    subst hx; subst hy
    rw [eqGuard_at_string, pure_bind]
    obtain ⟨h1, h2⟩ := strBin_run (P := P) h t w
    exact ⟨h1, h2 ρ lm⟩
  · -- bools
    rename_i a b
    simp only [VRel] at hx hy
    subst hx; subst hy
    rw [eqGuard_at_bool, pure_bind]
    obtain ⟨i, hi, h⟩ := Option.bind_eq_some_iff.1 h
    obtain ⟨inf, d, z, ti⟩ := ok.tis hi
    split at h
    · rename_i ha hs
      obtain rfl := ti.bool hs ha
      obtain ⟨h1, h2⟩ := isNil_run (P := P) (w := w) (t := t) (x := .bool a) (y := .bool b) h (run_equal_bool w t a b ti.und) rfl rfl
      exact ⟨h1, h2 ρ lm⟩
    · cases h
  · -- structs
    split at h
    · rename_i hq
      obtain ⟨i, hi, h⟩ := Option.bind_eq_some_iff.1 h
      split at h
      · rename_i ha
        obtain ⟨b, hb, h⟩ := Option.bind_eq_some_iff.1 h
        exact bin_struct ok hq hi ha hb h hx hy u u' w
      · cases h
    · cases h
  · -- nil slices
    obtain ⟨i, hi, h⟩ := Option.bind_eq_some_iff.1 h
    split at h
    · rename_i et hk
      exact bin_slice ok hi hk h hx hy u u' w
    · cases h
  · -- nil pointers
    obtain ⟨i, hi, h⟩ := Option.bind_eq_some_iff.1 h
    split at h
    · rename_i ha hs
      exact bin_ptr ok hi ha hs h hx hy u u' w
    · cases h
  · cases h

theorem snd_binOp (ok : TabOK P T) {op : BinOp} {t yt : TypeId} {x y : Operand} (hop : o.op = .binOp op t x y yt)
    (h : binK op (T.ti t) (T.eq t) (ev T e x) (ev T e y) (fun v => k v l σ) = some r) : Snd P T o e l σ k r := by
  rw [binK_eq] at h
  obtain ⟨v, hv, hk⟩ := Option.bind_eq_some_iff.1 h
  refine ⟨v, l, σ, hk, .pure fun ρ lm A w _ _ ho => ⟨embS v, ?_⟩⟩
  have h1 := ho x (by simp [hop, Op.operands])
  have h2 := ho y (by simp [hop, Op.operands])
  obtain ⟨g1, g2⟩ := binC_run ok hv h1 h2 x y w
  refine ⟨?_, g2⟩
  simp only [execOp, hop]
  rw [Sem.run_bind, g1]
  rfl
end
end Go.Abs
