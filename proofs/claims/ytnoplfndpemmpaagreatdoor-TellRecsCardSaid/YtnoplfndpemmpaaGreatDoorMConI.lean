/-
A store of files in memory: its head, its map, its files' blocks; lists with names.
How many bytes a store has.
The contract of Used.
-/
import Derived.Test.YtnoplfndpemmpaaGreatDoorMAe
import Derived.Test.YtnoplfndpemmpaaGreatDoorMConY
namespace Go.Abs.TE
open Go Go.Abs Go.Proofs

/-! ### Lists of things with names -/
section
variable {α β : Type}
def getK (k : α → ByteArray) (n : ByteArray) : List α → Option α
  | [] => none
  | g :: r => if k g = n then some g else getK k n r
def delK (k : α → ByteArray) (n : ByteArray) : List α → List α
  | [] => []
  | g :: r => if k g = n then r else g :: delK k n r
def modK (k : α → ByteArray) (n : ByteArray) (h : α → α) : List α → List α
  | [] => []
  | g :: r => if k g = n then h g :: r else g :: modK k n h r
def putK (k : α → ByteArray) (x : α) : List α → List α
  | [] => [x]
  | g :: r => if k g = k x then x :: r else g :: putK k x r
variable {k : α → ByteArray} {k' : β → ByteArray} {g : α → β}
theorem getK_map (hk : ∀ x, k' (g x) = k x) (n : ByteArray) : ∀ l : List α, getK k' n (l.map g) = (getK k n l).map g
  | [] => rfl
  | x :: r => by
    simp only [List.map_cons, getK, hk]
    split
    · rfl
    · exact getK_map hk n r
theorem delK_map (hk : ∀ x, k' (g x) = k x) (n : ByteArray) : ∀ l : List α, delK k' n (l.map g) = (delK k n l).map g
  | [] => rfl
  | x :: r => by
    simp only [List.map_cons, delK, hk]
    split
    · rfl
    · rw [List.map_cons, delK_map hk n r]
theorem modK_map (hk : ∀ x, k' (g x) = k x) (n : ByteArray) {h : α → α} {h' : β → β} : ∀ l : List α, (∀ x ∈ l, g (h x) = h' (g x)) → modK k' n h' (l.map g) = (modK k n h l).map g
  | [], _ => rfl
  | x :: r, hh => by
    simp only [List.map_cons, modK, hk]
    split
    · rw [List.map_cons, hh x List.mem_cons_self]
    · rw [List.map_cons, modK_map hk n r fun y hy => hh y (List.mem_cons_of_mem _ hy)]
theorem putK_map (hk : ∀ x, k' (g x) = k x) (y : α) : ∀ l : List α, putK k' (g y) (l.map g) = (putK k y l).map g
  | [] => rfl
  | x :: r => by
    simp only [List.map_cons, putK, hk]
    split
    · rfl
    · rw [List.map_cons, putK_map hk y r]
theorem getK_mem {n : ByteArray} {x : α} : ∀ {l : List α}, getK k n l = some x → x ∈ l ∧ k x = n
  | [], h => by cases h
  | y :: r, h => by
    simp only [getK] at h
    split at h
    · rename_i e; injection h with h; subst h; exact ⟨List.mem_cons_self, e⟩
    · obtain ⟨h1, h2⟩ := getK_mem h; exact ⟨List.mem_cons_of_mem _ h1, h2⟩
theorem getK_none {n : ByteArray} : ∀ {l : List α}, getK k n l = none ↔ ∀ x ∈ l, k x ≠ n
  | [] => by simp [getK]
  | y :: r => by
    simp only [getK]
    split
    · rename_i e; simp [e]
    · rename_i e; simp [e, getK_none]
theorem mem_delK {n : ByteArray} {x : α} : ∀ {l : List α}, x ∈ delK k n l → x ∈ l
  | [], h => h
  | y :: r, h => by
    simp only [delK] at h
    split at h
    · exact List.mem_cons_of_mem _ h
    · rcases List.mem_cons.1 h with h | h
      · exact List.mem_cons.2 (.inl h)
      · exact List.mem_cons_of_mem _ (mem_delK h)
theorem delK_sub {n : ByteArray} : ∀ (l : List α), (delK k n l).Sublist l
  | [] => .slnil
  | y :: r => by
    simp only [delK]
    split
    · exact List.sublist_cons_self ..
    · exact (delK_sub r).cons_cons _
theorem mem_putK {x y : α} : ∀ {l : List α}, x ∈ putK k y l → x = y ∨ x ∈ l
  | [], h => by simp [putK] at h; exact .inl h
  | z :: r, h => by
    simp only [putK] at h
    split at h
    · rcases List.mem_cons.1 h with h | h
      · exact .inl h
      · exact .inr (List.mem_cons_of_mem _ h)
    · rcases List.mem_cons.1 h with h | h
      · exact .inr (List.mem_cons.2 (.inl h))
      · exact (mem_putK h).imp id (List.mem_cons_of_mem _)
theorem putK_none {y : α} : ∀ {l : List α}, getK k (k y) l = none → putK k y l = l ++ [y]
  | [], _ => rfl
  | z :: r, h => by
    simp only [getK] at h
    split at h
    · cases h
    · rename_i e
      simp only [putK, if_neg e, List.cons_append, putK_none h]
theorem modK_none {n : ByteArray} {h : α → α} : ∀ {l : List α}, getK k n l = none → modK k n h l = l
  | [], _ => rfl
  | z :: r, hh => by
    simp only [getK] at hh
    split at hh
    · cases hh
    · rename_i e
      simp only [modK, if_neg e, modK_none hh]
theorem mem_modK {n : ByteArray} {h : α → α} {x : α} : ∀ {l : List α}, x ∈ modK k n h l → x ∈ l ∨ ∃ y, getK k n l = some y ∧ x = h y
  | [], hx => .inl hx
  | z :: r, hx => by
    simp only [modK] at hx
    simp only [getK]
    split at hx
    · rename_i e
      rw [if_pos e]
      rcases List.mem_cons.1 hx with hx | hx
      · exact .inr ⟨z, rfl, hx⟩
      · exact .inl (List.mem_cons_of_mem _ hx)
    · rename_i e
      rw [if_neg e]
      rcases List.mem_cons.1 hx with hx | hx
      · exact .inl (List.mem_cons.2 (.inl hx))
      · exact (mem_modK hx).imp (List.mem_cons_of_mem _) id
theorem modK_keys {n : ByteArray} {h : α → α} (hk : ∀ x, k (h x) = k x) : ∀ (l : List α), (modK k n h l).map k = l.map k
  | [] => rfl
  | z :: r => by
    simp only [modK]
    split
    · simp [hk]
    · simp [modK_keys hk r]
theorem putK_keys {y : α} : ∀ {l : List α}, (∃ x, getK k (k y) l = some x) → (putK k y l).map k = l.map k
  | [], h => by obtain ⟨x, h⟩ := h; cases h
  | z :: r, h => by
    simp only [getK] at h
    simp only [putK]
    split
    · rename_i e; simp [e]
    · rename_i e
      rw [if_neg e] at h
      simp [putK_keys h]
end

/-! ### The store -/
structure FD where
  name : ByteArray
  p : Nat
  sl : Sl
  data : List UInt8
  sure : Nat
structure SD where
  s : Nat
  bm : Nat
  fs : List FD
  quota : Nat
  armed : Bool
  left : Int
  down : Bool
def ent (f : FD) : AVal × AVal := (.str f.name, .ptr (some (f.p, 0)))
def FD.blocks (f : FD) : List Nat := f.p :: f.sl.b.toList
def SD.foot (d : SD) : List Nat := d.s :: d.bm :: d.fs.flatMap FD.blocks
def FD.row (f : FD) : List AVal := [.slice f.sl.b f.sl.o f.sl.n 1, .int .i64 (f.sure : Int)]
def SD.head (d : SD) : List AVal := [.map (some d.bm), .int .i64 (d.quota : Int), .bool d.armed, .int .i64 d.left, .bool d.down]
structure FileIn (σ : Heap) (m : Mode) (f : FD) : Prop where
  row : σ[f.p]? = some (.row f.row m)
  o : f.sl.o = 0
  n : f.sl.n = f.data.length
  sure : f.sure ≤ f.data.length
  data : (f.sl.b = none ∧ f.data = []) ∨ ∃ b cs, f.sl.b = some b ∧ σ[b]? = some (.row cs m) ∧ cs.take f.data.length = eU8.all f.data
def usedF (fs : List FD) : Nat := (fs.map fun f => f.data.length).sum
/-- No block is there twice. -/
structure Nd (d : SD) : Prop where
  sb : d.s ≠ d.bm
  out : ∀ f ∈ d.fs, d.s ∉ f.blocks ∧ d.bm ∉ f.blocks
  each : ∀ f ∈ d.fs, f.blocks.Nodup
  apart : d.fs.Pairwise fun f g => (∀ b ∈ f.blocks, b ∉ g.blocks) ∧ ∀ b ∈ g.blocks, b ∉ f.blocks
structure St (σ : Heap) (m : Mode) (d : SD) : Prop where
  hd : σ[d.s]? = some (.row d.head m)
  mp : σ[d.bm]? = some (.map (d.fs.map ent) m)
  file : ∀ f ∈ d.fs, FileIn σ m f
  nd : Nd d
  names : (d.fs.map FD.name).Nodup
  used : usedF d.fs ≤ d.quota
  sz : usedF d.fs + d.fs.length ≤ 1000000
  q : d.quota ≤ 9223372036854775807
  nok : ∀ f ∈ d.fs, f.name.size ≠ 0 ∧ f.name.size ≤ 12

theorem ba_beq (a b : ByteArray) : (a.toList == b.toList) = decide (a = b) := by
  rw [Bool.eq_iff_iff, beq_iff_eq, decide_eq_true_eq, ByteArray.toList_eq, ByteArray.toList_eq]
  exact ⟨fun h => by cases a; cases b; congr; exact Array.ext' h, fun h => by rw [h]⟩

section
variable {σ σ' : Heap} {m m' : Mode} {d d' : SD} {f : FD}
theorem findC_ent (n : ByteArray) : ∀ (fs : List FD) (i : Nat),
    (getK FD.name n fs = none ∧ findC (.str n) (fs.map ent) i = some none) ∨
    ∃ j f, getK FD.name n fs = some f ∧ findC (.str n) (fs.map ent) i = some (some (i + j, .ptr (some (f.p, 0)))) ∧ fs[j]? = some f ∧
      (fs.map ent).eraseIdx j = (delK FD.name n fs).map ent ∧ ∀ x : FD, x.name = n → (fs.map ent).set j (ent x) = (putK FD.name x fs).map ent
  | [], i => .inl ⟨rfl, rfl⟩
  | g :: r, i => by
    simp only [List.map_cons, getK, findC, ent, keyEq, ba_beq, delK]
    by_cases e : g.name = n
    · rw [if_pos e, decide_eq_true e.symm]
      refine .inr ⟨0, g, rfl, rfl, rfl, by rw [if_pos e]; rfl, fun x hx => ?_⟩
      simp only [putK, if_pos (e.trans hx.symm)]
      rfl
    · rw [if_neg e, decide_eq_false (Ne.symm e), if_neg e]
      rcases findC_ent n r (i + 1) with ⟨h1, h2⟩ | ⟨j, f, h1, h2, h3, h4, h5⟩
      · exact .inl ⟨h1, h2⟩
      · refine .inr ⟨j + 1, f, h1, by rw [h2, show i + 1 + j = i + (j + 1) by omega], by simpa using h3, ?_, fun x hx => ?_⟩
        · rw [List.eraseIdx_cons_succ, List.map_cons, ← h4]; rfl
        · have hne : ¬ g.name = x.name := fun h => e (h.trans hx)
          simp only [putK, if_neg hne, List.set_cons_succ, List.map_cons]
          rw [← h5 x hx]; rfl

theorem St.frz (h : St σ .rw d) : St σ.frz .ro d where
  hd := by rw [Heap.frz_get, h.hd]; rfl
  mp := by rw [Heap.frz_get, h.mp]; rfl
  file := fun f hf => by
    have g := h.file f hf
    refine ⟨by rw [Heap.frz_get, g.row]; rfl, g.o, g.n, g.sure, g.data.imp id fun ⟨b, cs, h1, h2, h3⟩ => ⟨b, cs, h1, by rw [Heap.frz_get, h2]; rfl, h3⟩⟩
  nd := h.nd
  names := h.names
  used := h.used
  sz := h.sz
  q := h.q
  nok := h.nok
/-- It can be read. -/
def Mode.rd : Mode → Prop | .dead => False | _ => True
theorem row?_rd {b : Nat} {cs : List AVal} (h : σ[b]? = some (.row cs m)) (hm : Mode.rd m) : σ.row? b = some cs := row?_of h (by cases m <;> simp_all [Mode.rd])
theorem entries_rd {b : Nat} {es : List (AVal × AVal)} (h : σ[b]? = some (.map es m)) (hm : Mode.rd m) : σ.entries (some b) = some es := by
  cases m with
  | dead => exact hm.elim
  | ro | rw => simp [Heap.entries, h]
theorem u8_all_inj {xs ys : List UInt8} (h : eU8.all xs = eU8.all ys) : xs = ys := eU8.all_inj (by decide) h
theorem eU8_len (xs : List UInt8) : (eU8.all xs).length = xs.length := by rw [El.all_len]; show xs.length * 1 = _; omega
theorem FileIn.uniq {g : FD} (h : FileIn σ m f) (h' : FileIn σ m' g) (hn : f.name = g.name) (hp : f.p = g.p) : f = g := by
  have e := h.row
  rw [hp, h'.row] at e
  injection e with e
  injection e with e _
  simp only [FD.row, List.cons.injEq, AVal.slice.injEq, AVal.int.injEq, and_true, true_and] at e
  obtain ⟨⟨e1, e2, e3⟩, e4⟩ := e
  have esl : f.sl = g.sl := by
    cases hf : f.sl; cases hg : g.sl
    rw [hf, hg] at e1 e2 e3
    simp at e1 e2 e3
    rw [e1, e2, e3]
  have elen : f.data.length = g.data.length := by rw [← h.n, ← h'.n, esl]
  have ed : f.data = g.data := by
    rcases h.data with ⟨h1, h2⟩ | ⟨b, cs, h1, h2, h3⟩
    · rw [h2] at elen ⊢
      exact (List.eq_nil_of_length_eq_zero elen.symm).symm
    · rcases h'.data with ⟨k1, k2⟩ | ⟨b', cs', k1, k2, k3⟩
      · rw [esl, k1] at h1; cases h1
      · rw [esl, k1] at h1
        injection h1 with h1
        subst h1
        rw [h2] at k2
        injection k2 with k2
        injection k2 with k2 _
        subst k2
        rw [elen, k3] at h3
        exact (u8_all_inj h3).symm
  cases f; cases g
  simp only at hn hp esl ed e4
  subst hn; subst hp; subst esl; subst ed
  congr
  omega
theorem St.uniq (h : St σ m d) (h' : St σ m' d') (hs : d.s = d'.s) : d = d' := by
  have e := h.hd
  rw [hs, h'.hd] at e
  injection e with e
  injection e with e _
  simp only [SD.head, List.cons.injEq, AVal.map.injEq, Option.some.injEq, AVal.int.injEq, AVal.bool.injEq, and_true, true_and] at e
  obtain ⟨e1, e2, e3, e4, e5⟩ := e
  have em := h.mp
  rw [← e1, h'.mp] at em
  injection em with em
  injection em with em _
  have ef : d.fs = d'.fs := by
    apply List.ext_getElem?
    intro i
    have ei := congrArg (fun l : List (AVal × AVal) => l[i]?) em
    simp only [List.getElem?_map] at ei
    cases hf : d.fs[i]? with
    | none =>
      rw [hf] at ei
      simp only [Option.map_none, Option.map_eq_none_iff] at ei
      rw [ei]
    | some f =>
      rw [hf] at ei
      simp only [Option.map_some, Option.map_eq_some_iff] at ei
      obtain ⟨g, hg, eg⟩ := ei
      rw [hg]
      simp only [ent, Prod.mk.injEq, AVal.str.injEq, AVal.ptr.injEq, Option.some.injEq, and_true] at eg
      rw [(h.file f (List.mem_of_getElem? hf)).uniq (h'.file g (List.mem_of_getElem? hg)) eg.1.symm eg.2.symm]
  cases d; cases d'
  simp only at hs e1 e2 e3 e4 e5 ef
  subst hs; subst e1; subst e3; subst e4; subst e5; subst ef
  congr
  omega
/-- What can be read of the head. -/
theorem St.c0 (h : St σ m d) (hm : Mode.rd m) : map? (σ.cell? d.s 0) = some (some d.bm) := by unfold Heap.cell?; rw [row?_rd h.hd hm]; rfl
theorem St.c1 (h : St σ m d) (hm : Mode.rd m) : int? (σ.cell? d.s (0 + 1)) .i64 = some (d.quota : Int) := by unfold Heap.cell?; rw [row?_rd h.hd hm]; rfl
theorem St.c2 (h : St σ m d) (hm : Mode.rd m) : bool? (σ.cell? d.s (0 + 2)) = some d.armed := by unfold Heap.cell?; rw [row?_rd h.hd hm]; rfl
theorem St.c3 (h : St σ m d) (hm : Mode.rd m) : int? (σ.cell? d.s (0 + 3)) .i64 = some d.left := by unfold Heap.cell?; rw [row?_rd h.hd hm]; rfl
theorem St.c4 (h : St σ m d) (hm : Mode.rd m) : bool? (σ.cell? d.s (0 + 4)) = some d.down := by unfold Heap.cell?; rw [row?_rd h.hd hm]; rfl
theorem FileIn.c0 (h : FileIn σ m f) (hm : Mode.rd m) : slice? (σ.cell? f.p 0) 1 = some (f.sl.b, f.sl.o, f.sl.n) := by
  unfold Heap.cell?; rw [row?_rd h.row hm]
  simp only [FD.row, Option.bind_some, List.getElem?_cons_zero, slice?]
  rfl
theorem FileIn.c1 (h : FileIn σ m f) (hm : Mode.rd m) : int? (σ.cell? f.p (0 + 1)) .i64 = some (f.sure : Int) := by unfold Heap.cell?; rw [row?_rd h.row hm]; rfl
/-- The file of a name. -/
def SD.get (d : SD) (n : ByteArray) : Option FD := getK FD.name n d.fs
def ptrOf : Option FD → AVal
  | some f => .ptr (some (f.p, 0))
  | none => .ptr none
theorem St.look (h : St σ m d) (hm : Mode.rd m) (n : ByteArray) : σ.look (some d.bm) (.str n) (.ptr none) = some (ptrOf (d.get n)) := by
  unfold Heap.look SD.get
  rw [entries_rd h.mp hm, Option.bind_some]
  rcases findC_ent n d.fs 0 with ⟨h1, h2⟩ | ⟨j, f, h1, h2, _⟩
  · rw [h1, h2]; rfl
  · rw [h1, h2]; rfl
def ptOf : Option FD → Pt
  | some f => some (f.p, 0)
  | none => none
theorem ptr_ptrOf (o : Option FD) : ptr? (some (ptrOf o)) = some (ptOf o) := by cases o <;> rfl
theorem FileIn.is (h : FileIn σ m f) (hm : Mode.rd m) (hl : f.data.length ≤ 1099511627776) : f.sl.Is eU8 σ f.data := by
  refine ⟨h.n, hl, ?_⟩
  rcases h.data with ⟨h1, h2⟩ | ⟨b, cs, h1, h2, h3⟩
  · exact .inl ⟨h1, h.o, h2⟩
  · have hlen : f.data.length ≤ cs.length := by
      have := congrArg List.length h3
      rw [List.length_take, eU8_len] at this
      omega
    refine .inr ⟨b, cs, h1, row?_rd h2 hm, ?_, ?_⟩
    · rw [h.o, List.drop_zero]
      show cs.take (f.data.length * 1) = _
      rw [Nat.mul_one, h3]
    · rw [h.o]
      show 0 + f.data.length * 1 ≤ _
      omega
theorem usedF_cons (f : FD) (fs : List FD) : usedF (f :: fs) = f.data.length + usedF fs := by simp [usedF]
theorem usedF_mem : ∀ {fs : List FD}, f ∈ fs → f.data.length ≤ usedF fs
  | [], h => by cases h
  | g :: r, h => by
    rw [usedF_cons]
    rcases List.mem_cons.1 h with rfl | h
    · omega
    · have := usedF_mem h; omega
end
end Go.Abs.TE
namespace Go.Abs.TE
open Go Go.Abs Go.Proofs

noncomputable def LU : RLoop := RLoop.ofCode (Code.sub (bodyOf Tryz.f144) [1, 1, 0])
theorem LU_code : Code.sub (bodyOf Tryz.f144) [1, 1, 0] = LU.code := by kernel_rfl
theorem LU_ok : LU.OK := ⟨⟨by kernel_rfl, by kernel_rfl, by kernel_rfl⟩, ⟨by kernel_rfl, by kernel_rfl, by kernel_rfl⟩, ⟨by kernel_rfl, by kernel_rfl, by kernel_rfl⟩, ⟨by kernel_rfl, by kernel_rfl, by kernel_rfl⟩, ⟨by decide +kernel, by decide +kernel, by decide +kernel⟩⟩
def lenAt (fs : List FD) (j : Nat) : Nat := ((fs[j]?).map fun f => f.data.length).getD 0
def sumAt (fs : List FD) (js : List Nat) : Nat := (js.map (lenAt fs)).sum
theorem sumAt_range : ∀ fs : List FD, sumAt fs (List.range fs.length) = usedF fs := fun fs => by
  unfold sumAt usedF
  congr 1
  apply List.ext_getElem?
  intro i
  simp only [List.getElem?_map]
  by_cases h : i < fs.length
  · simp [h, lenAt]
  · rw [List.getElem?_eq_none (by simp; omega), List.getElem?_eq_none (by omega)]; rfl
def restOf (n : Nat) (js : List Nat) : List Nat := (List.range n).filter fun j => !js.contains j
theorem some_rest {n : Nat} {js : List Nat} (h : Abs.Some n js) : (js ++ restOf n js).Perm (List.range n) := by
  rw [List.perm_ext_iff_of_nodup]
  · intro a
    simp only [restOf, List.mem_append, List.mem_filter, List.mem_range, Bool.not_eq_true', List.contains_eq_mem, decide_eq_false_iff_not]
    constructor
    · rintro (h1 | h1)
      · exact h.2 a h1
      · exact h1.1
    · intro h1
      by_cases h2 : a ∈ js
      · exact .inl h2
      · exact .inr ⟨h1, h2⟩
  · rw [List.nodup_append]
    refine ⟨h.1, List.nodup_range.filter _, fun a ha b hb e => ?_⟩
    subst e
    simp only [restOf, List.mem_filter, Bool.not_eq_true', List.contains_eq_mem, decide_eq_false_iff_not] at hb
    exact hb.2 ha
  · exact List.nodup_range
theorem some_perm {n : Nat} {js : List Nat} (h : Abs.Some n js) (hl : js.length = n) : js.Perm (List.range n) := by
  have h1 := some_rest h
  have h2 := h1.length_eq
  rw [List.length_append, List.length_range, hl] at h2
  rw [List.eq_nil_of_length_eq_zero (show (restOf n js).length = 0 by omega), List.append_nil] at h1
  exact h1
theorem sumAt_all {fs : List FD} {js : List Nat} (h : Abs.Some fs.length js) (hl : js.length = fs.length) : sumAt fs js = usedF fs := by
  rw [← sumAt_range]
  exact ((some_perm h hl).map _).sum_nat
theorem sumAt_le {fs : List FD} {js : List Nat} (h : Abs.Some fs.length js) : sumAt fs js ≤ usedF fs := by
  rw [← sumAt_range]
  have := ((some_rest h).map (lenAt fs)).sum_nat
  unfold sumAt
  rw [← this, List.map_append, List.sum_append]
  omega
noncomputable def EU (s bi : Nat) (fs : List FD) (js : List Nat) : Env :=
  [.ptr (some (s, 0)), .undef, .int .i64 0, .int .i64 (sumAt fs js : Int)] ++ List.replicate 6 .undef ++ [.ptr (some (bi, 0))] ++ List.replicate 12 .undef
noncomputable def EU1 (s bm : Nat) : Env :=
  [.ptr (some (s, 0)), .undef, .int .i64 0, .int .i64 0, .undef, .undef, .ptr (some (s, 0)), .ptr (some (s, 0)), .ptr (some (s, 0)), .map (some bm)] ++ List.replicate 13 .undef
theorem used_pre {σ : Heap} {s bm : Nat} (l : Locs) (h : map? (σ.cell? s 0) = some (some bm)) :
    opsC (R := Env × Locs × Heap) T 144 (callC T known0 0 0) (LU.pre ++ [LU.oR]).toArray LU.pre [] [] ([.ptr (some (s, 0)), .undef, .int .i64 0, .int .i64 0] ++ List.replicate 19 .undef) l σ none (fun e l σ => some (e, l, σ)) = some (EU1 s bm, l, σ) := by
  have : opsC (R := Env × Locs × Heap) T 144 (callC T known0 0 0) (LU.pre ++ [LU.oR]).toArray LU.pre [] [] ([.ptr (some (s, 0)), .undef, .int .i64 0, .int .i64 0] ++ List.replicate 19 .undef) l σ none (fun e l σ => some (e, l, σ)) =
      (map? (σ.cell? s 0)).bind fun x => some ([.ptr (some (s, 0)), .undef, .int .i64 0, .int .i64 0, .undef, .undef, .ptr (some (s, 0)), .ptr (some (s, 0)), .ptr (some (s, 0)), .map x] ++ List.replicate 13 .undef, l, σ) := by kernel_rfl
  rw [this, h]
  rfl
theorem used_os4 {σ : Heap} {s bi : Nat} {fs : List FD} {js : List Nat} {k v : AVal} (l : Locs) :
    opsC (R := Env × Locs × Heap) T 144 (callC T known0 0 0) (LU.oE :: LU.os4).toArray LU.os4 [] [] ((((EU s bi fs js).set LU.tn (.tuple [.bool true, k, v])).set LU.tb (.bool true)).set LU.te (.tuple [k, v])) l σ none (fun e l σ => some (e, l, σ)) =
      some ([.ptr (some (s, 0)), .undef, .int .i64 0, .int .i64 (sumAt fs js : Int), .undef, fixV T 240 v] ++ List.replicate 4 .undef ++ [.ptr (some (bi, 0)), .tuple [.bool true, k, v], .bool true, .tuple [k, v], v] ++ List.replicate 8 .undef, l, σ) := by kernel_rfl
theorem used_body {σ : Heap} {s bi p : Nat} {fs : List FD} {js : List Nat} {k : AVal} {c : Option Nat} {o n : Nat} (l : Locs) (h : slice? (σ.cell? p 0) 1 = some (c, o, n)) :
    codeC (R := Ex × Env × Locs × Heap) T 0 144 (callC T known0 0 0) LU.B ([.ptr (some (s, 0)), .undef, .int .i64 0, .int .i64 (sumAt fs js : Int), .undef, .ptr (some (p, 0))] ++ List.replicate 4 .undef ++ [.ptr (some (bi, 0)), .tuple [.bool true, k, .ptr (some (p, 0))], .bool true, .tuple [k, .ptr (some (p, 0))], .ptr (some (p, 0))] ++ List.replicate 8 .undef) l σ (fun x e l σ => some (x, e, l, σ)) =
      some (.normal, [.ptr (some (s, 0)), .undef, .int .i64 0, .int .i64 (IntKind.i64.wrap ((sumAt fs js : Int) + (n : Int))), .undef, .ptr (some (p, 0))] ++ List.replicate 4 .undef ++ [.ptr (some (bi, 0)), .tuple [.bool true, k, .ptr (some (p, 0))], .bool true, .tuple [k, .ptr (some (p, 0))], .ptr (some (p, 0)), .int .i64 (sumAt fs js : Int), .ptr (some (p, 0)), .ptr (some (p, 0)), .ptr (some (p, 0)), .slice c o n 1, .int .i64 (n : Int), .int .i64 (IntKind.i64.wrap ((sumAt fs js : Int) + (n : Int))), .undef], l, σ) := by
  have : codeC (R := Ex × Env × Locs × Heap) T 0 144 (callC T known0 0 0) LU.B ([.ptr (some (s, 0)), .undef, .int .i64 0, .int .i64 (sumAt fs js : Int), .undef, .ptr (some (p, 0))] ++ List.replicate 4 .undef ++ [.ptr (some (bi, 0)), .tuple [.bool true, k, .ptr (some (p, 0))], .bool true, .tuple [k, .ptr (some (p, 0))], .ptr (some (p, 0))] ++ List.replicate 8 .undef) l σ (fun x e l σ => some (x, e, l, σ)) =
      (slice? (σ.cell? p 0) 1).bind fun q => some (.normal, [.ptr (some (s, 0)), .undef, .int .i64 0, .int .i64 (IntKind.i64.wrap ((sumAt fs js : Int) + (q.2.2 : Int))), .undef, .ptr (some (p, 0))] ++ List.replicate 4 .undef ++ [.ptr (some (bi, 0)), .tuple [.bool true, k, .ptr (some (p, 0))], .bool true, .tuple [k, .ptr (some (p, 0))], .ptr (some (p, 0)), .int .i64 (sumAt fs js : Int), .ptr (some (p, 0)), .ptr (some (p, 0)), .ptr (some (p, 0)), .slice q.1 q.2.1 q.2.2 1, .int .i64 (q.2.2 : Int), .int .i64 (IntKind.i64.wrap ((sumAt fs js : Int) + (q.2.2 : Int))), .undef], l, σ) := by kernel_rfl
  rw [this, h]
  rfl
theorem used_h0 {σ : Heap} (s : Nat) (l : Locs) : codeC (R := Ex × Env × Locs × Heap) T 0 144 (callC T known0 0 0) (Code.sub (bodyOf Tryz.f144) [0]) ([.ptr (some (s, 0))] ++ List.replicate 22 .undef) l σ (fun x e l σ => some (x, e, l, σ)) =
    some (.normal, [.ptr (some (s, 0)), .undef, .int .i64 0] ++ List.replicate 20 .undef, l, σ) := by kernel_rfl
theorem used_h1 {σ : Heap} (s : Nat) (l : Locs) : codeC (R := Ex × Env × Locs × Heap) T 0 144 (callC T known0 0 0) (Code.sub (bodyOf Tryz.f144) [1, 0]) ([.ptr (some (s, 0)), .undef, .int .i64 0] ++ List.replicate 20 .undef) l σ (fun x e l σ => some (x, e, l, σ)) =
    some (.normal, [.ptr (some (s, 0)), .undef, .int .i64 0, .int .i64 0] ++ List.replicate 19 .undef, l, σ) := by kernel_rfl
theorem used_tail {σ : Heap} (s bi n : Nat) (l : Locs) : codeC (R := Ex × Env × Locs × Heap) T 0 144 (callC T known0 0 0) (Code.sub (bodyOf Tryz.f144) [1, 1, 1]) (([.ptr (some (s, 0)), .undef, .int .i64 0, .int .i64 (n : Int)] ++ List.replicate 6 .undef ++ [.ptr (some (bi, 0))] ++ List.replicate 12 .undef : Env).set LU.tn (.tuple [.bool false]) |>.set LU.tb (.bool false)) l σ (fun x e l σ => some (x, e, l, σ)) =
    some (.ret, [.ptr (some (s, 0)), .undef, .int .i64 (n : Int), .int .i64 (n : Int)] ++ List.replicate 6 .undef ++ [.ptr (some (bi, 0)), .tuple [.bool false], .bool false] ++ List.replicate 9 .undef ++ [.int .i64 (n : Int)], l, σ) := by kernel_rfl
theorem used_code : bodyOf Tryz.f144 = .seq (Code.sub (bodyOf Tryz.f144) [0]) (.seq (Code.sub (bodyOf Tryz.f144) [1, 0]) (.seq LU.code (Code.sub (bodyOf Tryz.f144) [1, 1, 1]))) := by kernel_rfl
theorem used_parts : goodCode T 144 LU.B = true ∧ goodCode T 144 (Code.sub (bodyOf Tryz.f144) [0]) = true ∧ goodCode T 144 (Code.sub (bodyOf Tryz.f144) [1, 0]) = true ∧ goodCode T 144 (Code.sub (bodyOf Tryz.f144) [1, 1, 1]) = true := ⟨by kernel_rfl, by kernel_rfl, by kernel_rfl, by kernel_rfl⟩
theorem used_ty : ∃ i kt et, T.ti LU.t = some i ∧ i.kind = .map kt et := ⟨{ shape := [.map], agg := false, bytes := 8, kind := .map 9 240 }, 9, 240, by kernel_rfl, rfl⟩
end Go.Abs.TE
namespace Go.Abs.TE
open Go Go.Abs Go.Proofs

theorem St.bm_lt {σ : Heap} {m : Mode} {d : SD} (h : St σ m d) : d.bm < σ.length := (List.getElem?_eq_some_iff.1 h.mp).1
theorem FileIn.lt {σ : Heap} {m : Mode} {f : FD} (h : FileIn σ m f) : f.p < σ.length := (List.getElem?_eq_some_iff.1 h.row).1
theorem used_mask (s bi : Nat) (bm : Nat) (fs : List FD) : maskE [6, 7, 8, 9] ((EU1 s bm).set LU.it (.ptr (some (bi, 0)))) = EU s bi fs [] := by kernel_rfl
theorem used_mask2 (s bi p n o : Nat) (c : Option Nat) (k : AVal) (fs : List FD) (js js' : List Nat) (x : Int) (hx : x = (sumAt fs js' : Int)) :
    maskE [5, 11, 12, 13, 14, 15, 16, 17, 18, 19, 20, 21] ([.ptr (some (s, 0)), .undef, .int .i64 0, .int .i64 x, .undef, .ptr (some (p, 0))] ++ List.replicate 4 .undef ++ [.ptr (some (bi, 0)), .tuple [.bool true, k, .ptr (some (p, 0))], .bool true, .tuple [k, .ptr (some (p, 0))], .ptr (some (p, 0)), .int .i64 (sumAt fs js : Int), .ptr (some (p, 0)), .ptr (some (p, 0)), .ptr (some (p, 0)), .slice c o n 1, .int .i64 (n : Int), .int .i64 x, .undef]) = EU s bi fs js' := by
  subst hx
  kernel_rfl
theorem used_call {σ : Heap} {d : SD} (h : St σ .ro d) : CallOK Tryz.prog T 144 [.ptr (some (d.s, 0))] σ (.int .i64 (usedF d.fs : Int)) (σ ++ [.row [] .dead]) := by
  have hu := h.sz
  have hlen : (d.fs.map ent).length = d.fs.length := by simp
  have key : CodeOK Tryz.prog T LU.code ([.ptr (some (d.s, 0)), .undef, .int .i64 0, .int .i64 0] ++ List.replicate 19 .undef) (List.replicate 23 .none) σ .normal
      (((EU d.s σ.length d.fs (List.range d.fs.length)).set LU.tn (.tuple [.bool false])).set LU.tb (.bool false)) (List.replicate 23 .none) (σ ++ [.row [] .dead]) := by
    refine range_rule ok LU LU_ok used_ty (fun js => EU d.s σ.length d.fs js) (fun _ => σ ++ [.row [] .dead]) (trace_of ok (used_pre (List.replicate 23 .none) (h.c0 trivial))) (bm := d.bm) (es := d.fs.map ent) (by kernel_rfl) (fun t b => ?_) (fun _ _ => ?_) h.mp ?_ rfl (fun js _ => by kernel_rfl) (fun js _ => ?_) (fun js j k v hs hkv => ?_) (fun js hs hl => ?_)
    · intro e
      rw [List.getD, List.getElem?_replicate] at e
      split at e <;> cases e
    · rw [List.getElem?_append_left h.bm_lt]; exact h.mp
    · rw [← used_mask d.s σ.length d.bm d.fs]
      exact EWeak.mask _ _
    · rw [show (EU d.s σ.length d.fs js).length = 23 from by kernel_rfl]
      exact ⟨by decide +kernel, by decide +kernel, by decide +kernel, by decide +kernel⟩
    · rw [hlen] at hs
      obtain ⟨f, hf, ef⟩ : ∃ f, d.fs[j]? = some f ∧ ent f = (k, v) := by
        rw [List.getElem?_map] at hkv
        exact Option.map_eq_some_iff.1 hkv
      simp only [ent, Prod.mk.injEq] at ef
      obtain ⟨rfl, rfl⟩ := ef
      have hfm := List.mem_of_getElem? hf
      have g := h.file f hfm
      have hc : slice? ((σ ++ [Blk.row [] .dead]).cell? f.p 0) 1 = some (f.sl.b, f.sl.o, f.sl.n) := by
        unfold Heap.cell?
        rw [row?_congr (σ := σ) (List.getElem?_append_left g.lt)]
        exact g.c0 trivial
      have hsum : IntKind.i64.wrap ((sumAt d.fs js : Int) + (f.sl.n : Int)) = (sumAt d.fs (js ++ [j]) : Int) := by
        have e1 : sumAt d.fs (js ++ [j]) = sumAt d.fs js + f.sl.n := by
          simp only [sumAt, List.map_append, List.sum_append, List.map_cons, List.map_nil, List.sum_cons, List.sum_nil, lenAt, hf, Option.map_some, Option.getD_some, g.n]
          omega
        have := sumAt_le hs
        rw [wrap_i64_of (by omega) (by omega)]
        omega
      refine ⟨_, _, trace_of ok (used_os4 _), code_of ok known0_ok used_parts.1 (used_body (k := .str f.name) _ hc), ?_⟩
      rw [← used_mask2 d.s σ.length f.p f.sl.n f.sl.o f.sl.b (.str f.name) d.fs js (js ++ [j]) _ hsum]
      exact EWeak.mask _ _
    · rw [hlen] at hs hl
      refine ⟨?_, rfl⟩
      unfold EU
      rw [sumAt_all hs hl, sumAt_range]
  have full : CodeOK Tryz.prog T (bodyOf Tryz.f144) ([.ptr (some (d.s, 0))] ++ List.replicate 22 .undef) (List.replicate 23 .none) σ .ret ([.ptr (some (d.s, 0)), .undef, .int .i64 (usedF d.fs : Int), .int .i64 (usedF d.fs : Int)] ++ List.replicate 6 .undef ++ [.ptr (some (σ.length, 0)), .tuple [.bool false], .bool false] ++ List.replicate 9 .undef ++ [.int .i64 (usedF d.fs : Int)]) (List.replicate 23 .none) (σ ++ [.row [] .dead]) := by
    rw [used_code]
    refine code_seq (code_of ok known0_ok used_parts.2.1 (used_h0 d.s _)) (code_seq (code_of ok known0_ok used_parts.2.2.1 (used_h1 d.s _)) (code_seq key ?_))
    unfold EU
    rw [sumAt_range]
    exact code_of ok known0_ok used_parts.2.2.2 (used_tail d.s σ.length (usedF d.fs) _)
  refine call_code ok fn_file_Store_Used (c := bodyOf Tryz.f144) (by kernel_rfl) (x := .ret) full (.inr rfl) (by kernel_rfl)

noncomputable def w_file_Store_Used (s : Pt) (σ : Heap) : Option (Int × Heap) :=
  wOf (fun d : SD => s = some (d.s, 0) ∧ ∃ m, Mode.rd m ∧ St σ m d) fun d => ((usedF d.fs : Int), σ)
theorem w_file_Store_Used_eq {σ : Heap} {m : Mode} {d : SD} (hm : Mode.rd m) (h : St σ m d) : w_file_Store_Used (some (d.s, 0)) σ = some ((usedF d.fs : Int), σ) :=
  wOf_eq (P := fun e : SD => some (d.s, 0) = some (e.s, 0) ∧ ∃ m, Mode.rd m ∧ St σ m e) (f := fun e => ((usedF e.fs : Int), σ)) ⟨rfl, m, hm, h⟩ fun e ⟨h1, m', _, h2⟩ => by
    injection h1 with h1
    injection h1 with h1 _
    rw [h.uniq h2 h1]
theorem frz_frz (σ : Heap) : σ.frz.frz = σ.frz := by
  simp only [Heap.frz, List.map_map]
  congr 1
  funext x
  cases x with
  | row cs m => cases m <;> rfl
  | map es m => cases m <;> rfl
  | tys b t sz => rfl
theorem St.toRO {σ : Heap} {m : Mode} {d : SD} (hm : Mode.rd m) (h : St σ m d) : St σ.frz .ro d := by
  cases m with
  | dead => exact hm.elim
  | rw => exact h.frz
  | ro =>
    refine ⟨by rw [Heap.frz_get, h.hd]; rfl, by rw [Heap.frz_get, h.mp]; rfl, fun f hf => ?_, h.nd, h.names, h.used, h.sz, h.q, h.nok⟩
    have g := h.file f hf
    exact ⟨by rw [Heap.frz_get, g.row]; rfl, g.o, g.n, g.sure, g.data.imp id fun ⟨b, cs, h1, h2, h3⟩ => ⟨b, cs, h1, by rw [Heap.frz_get, h2]; rfl, h3⟩⟩
theorem ok_file_Store_Used : Ok_file_Store_Used w_file_Store_Used := fun s σ v σ' h => by
  obtain ⟨d, ⟨rfl, m, hm, hd⟩, e⟩ := wOf_some h
  injection e with e1 e2
  subst e1; subst e2
  exact call_reads (used_call (hd.toRO hm)) rfl
end Go.Abs.TE
