/-
A store of files in memory: its head, its map, its files' blocks; lists with names.
How many bytes a store has.
The contract of Used.
Contracts of the store: named, find, change, Fuse, Up, Sure, New, Read.
Contracts of the store: named, find, change, Fuse, Up, Sure, New, Clone, Read.
Contracts of the store: New, Clone, Read, Sync, Delete, Rename.
Contracts of the store: Delete, Rename, Cut.
Contracts of the store: Cut, Append.
Contracts of the store: Append.
The contract of Names.
The contract of Names, put together.
The contract of Crash.
-/
import Derived.Test.YtjfdgccoblanlaaMAe
import Derived.Test.YtjfdgccoblanlaaEqC0
import Derived.Test.YtjfdgccoblanlaaEqC1
import Derived.Test.YtjfdgccoblanlaaShC
import Derived.Sort.KeysCollected
import Derived.Test.YtjfdgccoblanlaaMAd
namespace Go.Abs.TC
open Go Go.Abs Go.Proofs

/-! ### Lists of things with names -/
section
variable {α β : Type}
def getK (k : α → ByteArray) (n : ByteArray) : List α → Option α
  | [] => none
  | g :: r => if k g = n then some g else getK k n r
def delK (k : α → ByteArray) (n : ByteArray) : List α → List α
  | [] => []
  | g :: r => if k g = n then r else g :: delK k n r
def modK (k : α → ByteArray) (n : ByteArray) (h : α → α) : List α → List α
  | [] => []
  | g :: r => if k g = n then h g :: r else g :: modK k n h r
def putK (k : α → ByteArray) (x : α) : List α → List α
  | [] => [x]
  | g :: r => if k g = k x then x :: r else g :: putK k x r
variable {k : α → ByteArray} {k' : β → ByteArray} {g : α → β}
theorem getK_map (hk : ∀ x, k' (g x) = k x) (n : ByteArray) : ∀ l : List α, getK k' n (l.map g) = (getK k n l).map g
  | [] => rfl
  | x :: r => by
    simp only [List.map_cons, getK, hk]
    split
    · rfl
    · exact getK_map hk n r
theorem delK_map (hk : ∀ x, k' (g x) = k x) (n : ByteArray) : ∀ l : List α, delK k' n (l.map g) = (delK k n l).map g
  | [] => rfl
  | x :: r => by
    simp only [List.map_cons, delK, hk]
    split
    · rfl
    · rw [List.map_cons, delK_map hk n r]
theorem modK_map (hk : ∀ x, k' (g x) = k x) (n : ByteArray) {h : α → α} {h' : β → β} : ∀ l : List α, (∀ x ∈ l, g (h x) = h' (g x)) → modK k' n h' (l.map g) = (modK k n h l).map g
  | [], _ => rfl
  | x :: r, hh => by
    simp only [List.map_cons, modK, hk]
    split
    · rw [List.map_cons, hh x List.mem_cons_self]
    · rw [List.map_cons, modK_map hk n r fun y hy => hh y (List.mem_cons_of_mem _ hy)]
theorem putK_map (hk : ∀ x, k' (g x) = k x) (y : α) : ∀ l : List α, putK k' (g y) (l.map g) = (putK k y l).map g
  | [] => rfl
  | x :: r => by
    simp only [List.map_cons, putK, hk]
    split
    · rfl
    · rw [List.map_cons, putK_map hk y r]
theorem getK_mem {n : ByteArray} {x : α} : ∀ {l : List α}, getK k n l = some x → x ∈ l ∧ k x = n
  | [], h => by cases h
  | y :: r, h => by
    simp only [getK] at h
    split at h
    · rename_i e; injection h with h; subst h; exact ⟨List.mem_cons_self, e⟩
    · obtain ⟨h1, h2⟩ := getK_mem h; exact ⟨List.mem_cons_of_mem _ h1, h2⟩
theorem getK_none {n : ByteArray} : ∀ {l : List α}, getK k n l = none ↔ ∀ x ∈ l, k x ≠ n
  | [] => by simp [getK]
  | y :: r => by
    simp only [getK]
    split
    · rename_i e; simp [e]
    · rename_i e; simp [e, getK_none]
theorem mem_delK {n : ByteArray} {x : α} : ∀ {l : List α}, x ∈ delK k n l → x ∈ l
  | [], h => h
  | y :: r, h => by
    simp only [delK] at h
    split at h
    · exact List.mem_cons_of_mem _ h
    · rcases List.mem_cons.1 h with h | h
      · exact List.mem_cons.2 (.inl h)
      · exact List.mem_cons_of_mem _ (mem_delK h)
theorem delK_sub {n : ByteArray} : ∀ (l : List α), (delK k n l).Sublist l
  | [] => .slnil
  | y :: r => by
    simp only [delK]
    split
    · exact List.sublist_cons_self ..
    · exact (delK_sub r).cons_cons _
theorem mem_putK {x y : α} : ∀ {l : List α}, x ∈ putK k y l → x = y ∨ x ∈ l
  | [], h => by simp [putK] at h; exact .inl h
  | z :: r, h => by
    simp only [putK] at h
    split at h
    · rcases List.mem_cons.1 h with h | h
      · exact .inl h
      · exact .inr (List.mem_cons_of_mem _ h)
    · rcases List.mem_cons.1 h with h | h
      · exact .inr (List.mem_cons.2 (.inl h))
      · exact (mem_putK h).imp id (List.mem_cons_of_mem _)
theorem putK_none {y : α} : ∀ {l : List α}, getK k (k y) l = none → putK k y l = l ++ [y]
  | [], _ => rfl
  | z :: r, h => by
    simp only [getK] at h
    split at h
    · cases h
    · rename_i e
      simp only [putK, if_neg e, List.cons_append, putK_none h]
theorem modK_none {n : ByteArray} {h : α → α} : ∀ {l : List α}, getK k n l = none → modK k n h l = l
  | [], _ => rfl
  | z :: r, hh => by
    simp only [getK] at hh
    split at hh
    · cases hh
    · rename_i e
      simp only [modK, if_neg e, modK_none hh]
theorem mem_modK {n : ByteArray} {h : α → α} {x : α} : ∀ {l : List α}, x ∈ modK k n h l → x ∈ l ∨ ∃ y, getK k n l = some y ∧ x = h y
  | [], hx => .inl hx
  | z :: r, hx => by
    simp only [modK] at hx
    simp only [getK]
    split at hx
    · rename_i e
      rw [if_pos e]
      rcases List.mem_cons.1 hx with hx | hx
      · exact .inr ⟨z, rfl, hx⟩
      · exact .inl (List.mem_cons_of_mem _ hx)
    · rename_i e
      rw [if_neg e]
      rcases List.mem_cons.1 hx with hx | hx
      · exact .inl (List.mem_cons.2 (.inl hx))
      · exact (mem_modK hx).imp (List.mem_cons_of_mem _) id
theorem modK_keys {n : ByteArray} {h : α → α} (hk : ∀ x, k (h x) = k x) : ∀ (l : List α), (modK k n h l).map k = l.map k
  | [] => rfl
  | z :: r => by
    simp only [modK]
    split
    · simp [hk]
    · simp [modK_keys hk r]
theorem putK_keys {y : α} : ∀ {l : List α}, (∃ x, getK k (k y) l = some x) → (putK k y l).map k = l.map k
  | [], h => by obtain ⟨x, h⟩ := h; cases h
  | z :: r, h => by
    simp only [getK] at h
    simp only [putK]
    split
    · rename_i e; simp [e]
    · rename_i e
      rw [if_neg e] at h
      simp [putK_keys h]
end

/-! ### The store -/
structure FD where
  name : ByteArray
  p : Nat
  sl : Sl
  data : List UInt8
  sure : Nat
structure SD where
  s : Nat
  bm : Nat
  fs : List FD
  quota : Nat
  armed : Bool
  left : Int
  down : Bool
def ent (f : FD) : AVal × AVal := (.str f.name, .ptr (some (f.p, 0)))
def FD.blocks (f : FD) : List Nat := f.p :: f.sl.b.toList
def SD.foot (d : SD) : List Nat := d.s :: d.bm :: d.fs.flatMap FD.blocks
def FD.row (f : FD) : List AVal := [.slice f.sl.b f.sl.o f.sl.n 1, .int .i64 (f.sure : Int)]
def SD.head (d : SD) : List AVal := [.map (some d.bm), .int .i64 (d.quota : Int), .bool d.armed, .int .i64 d.left, .bool d.down]
structure FileIn (σ : Heap) (m : Mode) (f : FD) : Prop where
  row : σ[f.p]? = some (.row f.row m)
  o : f.sl.o = 0
  n : f.sl.n = f.data.length
  sure : f.sure ≤ f.data.length
  data : (f.sl.b = none ∧ f.data = []) ∨ ∃ b cs, f.sl.b = some b ∧ σ[b]? = some (.row cs m) ∧ cs.take f.data.length = eU8.all f.data
def usedF (fs : List FD) : Nat := (fs.map fun f => f.data.length).sum
/-- No block is there twice. -/
structure Nd (d : SD) : Prop where
  sb : d.s ≠ d.bm
  out : ∀ f ∈ d.fs, d.s ∉ f.blocks ∧ d.bm ∉ f.blocks
  each : ∀ f ∈ d.fs, f.blocks.Nodup
  apart : d.fs.Pairwise fun f g => (∀ b ∈ f.blocks, b ∉ g.blocks) ∧ ∀ b ∈ g.blocks, b ∉ f.blocks
structure St (σ : Heap) (m : Mode) (d : SD) : Prop where
  hd : σ[d.s]? = some (.row d.head m)
  mp : σ[d.bm]? = some (.map (d.fs.map ent) m)
  file : ∀ f ∈ d.fs, FileIn σ m f
  nd : Nd d
  names : (d.fs.map FD.name).Nodup
  used : usedF d.fs ≤ d.quota
  sz : usedF d.fs + d.fs.length ≤ 1000000
  q : d.quota ≤ 9223372036854775807
  nok : ∀ f ∈ d.fs, f.name.size ≠ 0 ∧ f.name.size ≤ 12

theorem ba_beq (a b : ByteArray) : (a.toList == b.toList) = decide (a = b) := by
  rw [Bool.eq_iff_iff, beq_iff_eq, decide_eq_true_eq, ByteArray.toList_eq, ByteArray.toList_eq]
  exact ⟨fun h => by cases a; cases b; congr; exact Array.ext' h, fun h => by rw [h]⟩

section
variable {σ σ' : Heap} {m m' : Mode} {d d' : SD} {f : FD}
theorem findC_ent (n : ByteArray) : ∀ (fs : List FD) (i : Nat),
    (getK FD.name n fs = none ∧ findC (.str n) (fs.map ent) i = some none) ∨
    ∃ j f, getK FD.name n fs = some f ∧ findC (.str n) (fs.map ent) i = some (some (i + j, .ptr (some (f.p, 0)))) ∧ fs[j]? = some f ∧
      (fs.map ent).eraseIdx j = (delK FD.name n fs).map ent ∧ ∀ x : FD, x.name = n → (fs.map ent).set j (ent x) = (putK FD.name x fs).map ent
  | [], i => .inl ⟨rfl, rfl⟩
  | g :: r, i => by
    simp only [List.map_cons, getK, findC, ent, keyEq, ba_beq, delK]
    by_cases e : g.name = n
    · rw [if_pos e, decide_eq_true e.symm]
      refine .inr ⟨0, g, rfl, rfl, rfl, by rw [if_pos e]; rfl, fun x hx => ?_⟩
      simp only [putK, if_pos (e.trans hx.symm)]
      rfl
    · rw [if_neg e, decide_eq_false (Ne.symm e), if_neg e]
      rcases findC_ent n r (i + 1) with ⟨h1, h2⟩ | ⟨j, f, h1, h2, h3, h4, h5⟩
      · exact .inl ⟨h1, h2⟩
      · refine .inr ⟨j + 1, f, h1, by rw [h2, show i + 1 + j = i + (j + 1) by omega], by simpa using h3, ?_, fun x hx => ?_⟩
        · rw [List.eraseIdx_cons_succ, List.map_cons, ← h4]; rfl
        · have hne : ¬ g.name = x.name := fun h => e (h.trans hx)
          simp only [putK, if_neg hne, List.set_cons_succ, List.map_cons]
          rw [← h5 x hx]; rfl

theorem St.frz (h : St σ .rw d) : St σ.frz .ro d where
  hd := by rw [Heap.frz_get, h.hd]; rfl
  mp := by rw [Heap.frz_get, h.mp]; rfl
  file := fun f hf => by
    have g := h.file f hf
    refine ⟨by rw [Heap.frz_get, g.row]; rfl, g.o, g.n, g.sure, g.data.imp id fun ⟨b, cs, h1, h2, h3⟩ => ⟨b, cs, h1, by rw [Heap.frz_get, h2]; rfl, h3⟩⟩
  nd := h.nd
  names := h.names
  used := h.used
  sz := h.sz
  q := h.q
  nok := h.nok
/-- It can be read. -/
def Mode.rd : Mode → Prop | .dead => False | _ => True
theorem row?_rd {b : Nat} {cs : List AVal} (h : σ[b]? = some (.row cs m)) (hm : Mode.rd m) : σ.row? b = some cs := row?_of h (by cases m <;> simp_all [Mode.rd])
theorem entries_rd {b : Nat} {es : List (AVal × AVal)} (h : σ[b]? = some (.map es m)) (hm : Mode.rd m) : σ.entries (some b) = some es := by
  cases m with
  | dead => exact hm.elim
  | ro | rw => simp [Heap.entries, h]
theorem u8_all_inj {xs ys : List UInt8} (h : eU8.all xs = eU8.all ys) : xs = ys := eU8.all_inj (by decide) h
theorem eU8_len (xs : List UInt8) : (eU8.all xs).length = xs.length := by rw [El.all_len]; show xs.length * 1 = _; omega
theorem FileIn.uniq {g : FD} (h : FileIn σ m f) (h' : FileIn σ m' g) (hn : f.name = g.name) (hp : f.p = g.p) : f = g := by
  have e := h.row
  rw [hp, h'.row] at e
  injection e with e
  injection e with e _
  simp only [FD.row, List.cons.injEq, AVal.slice.injEq, AVal.int.injEq, and_true, true_and] at e
  obtain ⟨⟨e1, e2, e3⟩, e4⟩ := e
  have esl : f.sl = g.sl := by
    cases hf : f.sl; cases hg : g.sl
    rw [hf, hg] at e1 e2 e3
    simp at e1 e2 e3
    rw [e1, e2, e3]
  have elen : f.data.length = g.data.length := by rw [← h.n, ← h'.n, esl]
  have ed : f.data = g.data := by
    rcases h.data with ⟨h1, h2⟩ | ⟨b, cs, h1, h2, h3⟩
    · rw [h2] at elen ⊢
      exact (List.eq_nil_of_length_eq_zero elen.symm).symm
    · rcases h'.data with ⟨k1, k2⟩ | ⟨b', cs', k1, k2, k3⟩
      · rw [esl, k1] at h1; cases h1
      · rw [esl, k1] at h1
        injection h1 with h1
        subst h1
        rw [h2] at k2
        injection k2 with k2
        injection k2 with k2 _
        subst k2
        rw [elen, k3] at h3
        exact (u8_all_inj h3).symm
  cases f; cases g
  simp only at hn hp esl ed e4
  subst hn; subst hp; subst esl; subst ed
  congr
  omega
theorem St.uniq (h : St σ m d) (h' : St σ m' d') (hs : d.s = d'.s) : d = d' := by
  have e := h.hd
  rw [hs, h'.hd] at e
  injection e with e
  injection e with e _
  simp only [SD.head, List.cons.injEq, AVal.map.injEq, Option.some.injEq, AVal.int.injEq, AVal.bool.injEq, and_true, true_and] at e
  obtain ⟨e1, e2, e3, e4, e5⟩ := e
  have em := h.mp
  rw [← e1, h'.mp] at em
  injection em with em
  injection em with em _
  have ef : d.fs = d'.fs := by
    apply List.ext_getElem?
    intro i
    have ei := congrArg (fun l : List (AVal × AVal) => l[i]?) em
    simp only [List.getElem?_map] at ei
    cases hf : d.fs[i]? with
    | none =>
      rw [hf] at ei
      simp only [Option.map_none, Option.map_eq_none_iff] at ei
      rw [ei]
    | some f =>
      rw [hf] at ei
      simp only [Option.map_some, Option.map_eq_some_iff] at ei
      obtain ⟨g, hg, eg⟩ := ei
      rw [hg]
      simp only [ent, Prod.mk.injEq, AVal.str.injEq, AVal.ptr.injEq, Option.some.injEq, and_true] at eg
      rw [(h.file f (List.mem_of_getElem? hf)).uniq (h'.file g (List.mem_of_getElem? hg)) eg.1.symm eg.2.symm]
  cases d; cases d'
  simp only at hs e1 e2 e3 e4 e5 ef
  subst hs; subst e1; subst e3; subst e4; subst e5; subst ef
  congr
  omega
/-- What can be read of the head. -/
theorem St.c0 (h : St σ m d) (hm : Mode.rd m) : map? (σ.cell? d.s 0) = some (some d.bm) := by unfold Heap.cell?; rw [row?_rd h.hd hm]; rfl
theorem St.c1 (h : St σ m d) (hm : Mode.rd m) : int? (σ.cell? d.s (0 + 1)) .i64 = some (d.quota : Int) := by unfold Heap.cell?; rw [row?_rd h.hd hm]; rfl
theorem St.c2 (h : St σ m d) (hm : Mode.rd m) : bool? (σ.cell? d.s (0 + 2)) = some d.armed := by unfold Heap.cell?; rw [row?_rd h.hd hm]; rfl
theorem St.c3 (h : St σ m d) (hm : Mode.rd m) : int? (σ.cell? d.s (0 + 3)) .i64 = some d.left := by unfold Heap.cell?; rw [row?_rd h.hd hm]; rfl
theorem St.c4 (h : St σ m d) (hm : Mode.rd m) : bool? (σ.cell? d.s (0 + 4)) = some d.down := by unfold Heap.cell?; rw [row?_rd h.hd hm]; rfl
theorem FileIn.c0 (h : FileIn σ m f) (hm : Mode.rd m) : slice? (σ.cell? f.p 0) 1 = some (f.sl.b, f.sl.o, f.sl.n) := by
  unfold Heap.cell?; rw [row?_rd h.row hm]
  simp only [FD.row, Option.bind_some, List.getElem?_cons_zero, slice?]
  rfl
theorem FileIn.c1 (h : FileIn σ m f) (hm : Mode.rd m) : int? (σ.cell? f.p (0 + 1)) .i64 = some (f.sure : Int) := by unfold Heap.cell?; rw [row?_rd h.row hm]; rfl
/-- The file of a name. -/
def SD.get (d : SD) (n : ByteArray) : Option FD := getK FD.name n d.fs
def ptrOf : Option FD → AVal
  | some f => .ptr (some (f.p, 0))
  | none => .ptr none
theorem St.look (h : St σ m d) (hm : Mode.rd m) (n : ByteArray) : σ.look (some d.bm) (.str n) (.ptr none) = some (ptrOf (d.get n)) := by
  unfold Heap.look SD.get
  rw [entries_rd h.mp hm, Option.bind_some]
  rcases findC_ent n d.fs 0 with ⟨h1, h2⟩ | ⟨j, f, h1, h2, _⟩
  · rw [h1, h2]; rfl
  · rw [h1, h2]; rfl
def ptOf : Option FD → Pt
  | some f => some (f.p, 0)
  | none => none
theorem ptr_ptrOf (o : Option FD) : ptr? (some (ptrOf o)) = some (ptOf o) := by cases o <;> rfl
theorem FileIn.is (h : FileIn σ m f) (hm : Mode.rd m) (hl : f.data.length ≤ 1099511627776) : f.sl.Is eU8 σ f.data := by
  refine ⟨h.n, hl, ?_⟩
  rcases h.data with ⟨h1, h2⟩ | ⟨b, cs, h1, h2, h3⟩
  · exact .inl ⟨h1, h.o, h2⟩
  · have hlen : f.data.length ≤ cs.length := by
      have := congrArg List.length h3
      rw [List.length_take, eU8_len] at this
      omega
    refine .inr ⟨b, cs, h1, row?_rd h2 hm, ?_, ?_⟩
    · rw [h.o, List.drop_zero]
      show cs.take (f.data.length * 1) = _
      rw [Nat.mul_one, h3]
    · rw [h.o]
      show 0 + f.data.length * 1 ≤ _
      omega
theorem usedF_cons (f : FD) (fs : List FD) : usedF (f :: fs) = f.data.length + usedF fs := by simp [usedF]
theorem usedF_mem : ∀ {fs : List FD}, f ∈ fs → f.data.length ≤ usedF fs
  | [], h => by cases h
  | g :: r, h => by
    rw [usedF_cons]
    rcases List.mem_cons.1 h with rfl | h
    · omega
    · have := usedF_mem h; omega
end
end Go.Abs.TC
namespace Go.Abs.TC
open Go Go.Abs Go.Proofs

noncomputable def LU : RLoop := RLoop.ofCode (Code.sub (bodyOf Try.f23) [1, 1, 0])
theorem LU_code : Code.sub (bodyOf Try.f23) [1, 1, 0] = LU.code := by kernel_rfl
theorem LU_ok : LU.OK := ⟨⟨by kernel_rfl, by kernel_rfl, by kernel_rfl⟩, ⟨by kernel_rfl, by kernel_rfl, by kernel_rfl⟩, ⟨by kernel_rfl, by kernel_rfl, by kernel_rfl⟩, ⟨by kernel_rfl, by kernel_rfl, by kernel_rfl⟩, ⟨by decide +kernel, by decide +kernel, by decide +kernel⟩⟩
def lenAt (fs : List FD) (j : Nat) : Nat := ((fs[j]?).map fun f => f.data.length).getD 0
def sumAt (fs : List FD) (js : List Nat) : Nat := (js.map (lenAt fs)).sum
theorem sumAt_range : ∀ fs : List FD, sumAt fs (List.range fs.length) = usedF fs := fun fs => by
  unfold sumAt usedF
  congr 1
  apply List.ext_getElem?
  intro i
  simp only [List.getElem?_map]
  by_cases h : i < fs.length
  · simp [h, lenAt]
  · rw [List.getElem?_eq_none (by simp; omega), List.getElem?_eq_none (by omega)]; rfl
def restOf (n : Nat) (js : List Nat) : List Nat := (List.range n).filter fun j => !js.contains j
theorem some_rest {n : Nat} {js : List Nat} (h : Abs.Some n js) : (js ++ restOf n js).Perm (List.range n) := by
  rw [List.perm_ext_iff_of_nodup]
  · intro a
    simp only [restOf, List.mem_append, List.mem_filter, List.mem_range, Bool.not_eq_true', List.contains_eq_mem, decide_eq_false_iff_not]
    constructor
    · rintro (h1 | h1)
      · exact h.2 a h1
      · exact h1.1
    · intro h1
      by_cases h2 : a ∈ js
      · exact .inl h2
      · exact .inr ⟨h1, h2⟩
  · rw [List.nodup_append]
    refine ⟨h.1, List.nodup_range.filter _, fun a ha b hb e => ?_⟩
    subst e
    simp only [restOf, List.mem_filter, Bool.not_eq_true', List.contains_eq_mem, decide_eq_false_iff_not] at hb
    exact hb.2 ha
  · exact List.nodup_range
theorem some_perm {n : Nat} {js : List Nat} (h : Abs.Some n js) (hl : js.length = n) : js.Perm (List.range n) := by
  have h1 := some_rest h
  have h2 := h1.length_eq
  rw [List.length_append, List.length_range, hl] at h2
  rw [List.eq_nil_of_length_eq_zero (show (restOf n js).length = 0 by omega), List.append_nil] at h1
  exact h1
theorem sumAt_all {fs : List FD} {js : List Nat} (h : Abs.Some fs.length js) (hl : js.length = fs.length) : sumAt fs js = usedF fs := by
  rw [← sumAt_range]
  exact ((some_perm h hl).map _).sum_nat
theorem sumAt_le {fs : List FD} {js : List Nat} (h : Abs.Some fs.length js) : sumAt fs js ≤ usedF fs := by
  rw [← sumAt_range]
  have := ((some_rest h).map (lenAt fs)).sum_nat
  unfold sumAt
  rw [← this, List.map_append, List.sum_append]
  omega
noncomputable def EU (s bi : Nat) (fs : List FD) (js : List Nat) : Env :=
  [.ptr (some (s, 0)), .undef, .int .i64 0, .int .i64 (sumAt fs js : Int)] ++ List.replicate 6 .undef ++ [.ptr (some (bi, 0))] ++ List.replicate 12 .undef
noncomputable def EU1 (s bm : Nat) : Env :=
  [.ptr (some (s, 0)), .undef, .int .i64 0, .int .i64 0, .undef, .undef, .ptr (some (s, 0)), .ptr (some (s, 0)), .ptr (some (s, 0)), .map (some bm)] ++ List.replicate 13 .undef
theorem used_pre {σ : Heap} {s bm : Nat} (l : Locs) (h : map? (σ.cell? s 0) = some (some bm)) :
    opsC (R := Env × Locs × Heap) T 23 (callC T known0 0 0) (LU.pre ++ [LU.oR]).toArray LU.pre [] [] ([.ptr (some (s, 0)), .undef, .int .i64 0, .int .i64 0] ++ List.replicate 19 .undef) l σ none (fun e l σ => some (e, l, σ)) = some (EU1 s bm, l, σ) := by
  have : opsC (R := Env × Locs × Heap) T 23 (callC T known0 0 0) (LU.pre ++ [LU.oR]).toArray LU.pre [] [] ([.ptr (some (s, 0)), .undef, .int .i64 0, .int .i64 0] ++ List.replicate 19 .undef) l σ none (fun e l σ => some (e, l, σ)) =
      (map? (σ.cell? s 0)).bind fun x => some ([.ptr (some (s, 0)), .undef, .int .i64 0, .int .i64 0, .undef, .undef, .ptr (some (s, 0)), .ptr (some (s, 0)), .ptr (some (s, 0)), .map x] ++ List.replicate 13 .undef, l, σ) := by kernel_rfl
  rw [this, h]
  rfl
theorem used_os4 {σ : Heap} {s bi : Nat} {fs : List FD} {js : List Nat} {k v : AVal} (l : Locs) :
    opsC (R := Env × Locs × Heap) T 23 (callC T known0 0 0) (LU.oE :: LU.os4).toArray LU.os4 [] [] ((((EU s bi fs js).set LU.tn (.tuple [.bool true, k, v])).set LU.tb (.bool true)).set LU.te (.tuple [k, v])) l σ none (fun e l σ => some (e, l, σ)) =
      some ([.ptr (some (s, 0)), .undef, .int .i64 0, .int .i64 (sumAt fs js : Int), .undef, fixV T 73 v] ++ List.replicate 4 .undef ++ [.ptr (some (bi, 0)), .tuple [.bool true, k, v], .bool true, .tuple [k, v], v] ++ List.replicate 8 .undef, l, σ) := by kernel_rfl
theorem used_body {σ : Heap} {s bi p : Nat} {fs : List FD} {js : List Nat} {k : AVal} {c : Option Nat} {o n : Nat} (l : Locs) (h : slice? (σ.cell? p 0) 1 = some (c, o, n)) :
    codeC (R := Ex × Env × Locs × Heap) T 0 23 (callC T known0 0 0) LU.B ([.ptr (some (s, 0)), .undef, .int .i64 0, .int .i64 (sumAt fs js : Int), .undef, .ptr (some (p, 0))] ++ List.replicate 4 .undef ++ [.ptr (some (bi, 0)), .tuple [.bool true, k, .ptr (some (p, 0))], .bool true, .tuple [k, .ptr (some (p, 0))], .ptr (some (p, 0))] ++ List.replicate 8 .undef) l σ (fun x e l σ => some (x, e, l, σ)) =
      some (.normal, [.ptr (some (s, 0)), .undef, .int .i64 0, .int .i64 (IntKind.i64.wrap ((sumAt fs js : Int) + (n : Int))), .undef, .ptr (some (p, 0))] ++ List.replicate 4 .undef ++ [.ptr (some (bi, 0)), .tuple [.bool true, k, .ptr (some (p, 0))], .bool true, .tuple [k, .ptr (some (p, 0))], .ptr (some (p, 0)), .int .i64 (sumAt fs js : Int), .ptr (some (p, 0)), .ptr (some (p, 0)), .ptr (some (p, 0)), .slice c o n 1, .int .i64 (n : Int), .int .i64 (IntKind.i64.wrap ((sumAt fs js : Int) + (n : Int))), .undef], l, σ) := by
  have : codeC (R := Ex × Env × Locs × Heap) T 0 23 (callC T known0 0 0) LU.B ([.ptr (some (s, 0)), .undef, .int .i64 0, .int .i64 (sumAt fs js : Int), .undef, .ptr (some (p, 0))] ++ List.replicate 4 .undef ++ [.ptr (some (bi, 0)), .tuple [.bool true, k, .ptr (some (p, 0))], .bool true, .tuple [k, .ptr (some (p, 0))], .ptr (some (p, 0))] ++ List.replicate 8 .undef) l σ (fun x e l σ => some (x, e, l, σ)) =
      (slice? (σ.cell? p 0) 1).bind fun q => some (.normal, [.ptr (some (s, 0)), .undef, .int .i64 0, .int .i64 (IntKind.i64.wrap ((sumAt fs js : Int) + (q.2.2 : Int))), .undef, .ptr (some (p, 0))] ++ List.replicate 4 .undef ++ [.ptr (some (bi, 0)), .tuple [.bool true, k, .ptr (some (p, 0))], .bool true, .tuple [k, .ptr (some (p, 0))], .ptr (some (p, 0)), .int .i64 (sumAt fs js : Int), .ptr (some (p, 0)), .ptr (some (p, 0)), .ptr (some (p, 0)), .slice q.1 q.2.1 q.2.2 1, .int .i64 (q.2.2 : Int), .int .i64 (IntKind.i64.wrap ((sumAt fs js : Int) + (q.2.2 : Int))), .undef], l, σ) := by kernel_rfl
  rw [this, h]
  rfl
theorem used_h0 {σ : Heap} (s : Nat) (l : Locs) : codeC (R := Ex × Env × Locs × Heap) T 0 23 (callC T known0 0 0) (Code.sub (bodyOf Try.f23) [0]) ([.ptr (some (s, 0))] ++ List.replicate 22 .undef) l σ (fun x e l σ => some (x, e, l, σ)) =
    some (.normal, [.ptr (some (s, 0)), .undef, .int .i64 0] ++ List.replicate 20 .undef, l, σ) := by kernel_rfl
theorem used_h1 {σ : Heap} (s : Nat) (l : Locs) : codeC (R := Ex × Env × Locs × Heap) T 0 23 (callC T known0 0 0) (Code.sub (bodyOf Try.f23) [1, 0]) ([.ptr (some (s, 0)), .undef, .int .i64 0] ++ List.replicate 20 .undef) l σ (fun x e l σ => some (x, e, l, σ)) =
    some (.normal, [.ptr (some (s, 0)), .undef, .int .i64 0, .int .i64 0] ++ List.replicate 19 .undef, l, σ) := by kernel_rfl
theorem used_tail {σ : Heap} (s bi n : Nat) (l : Locs) : codeC (R := Ex × Env × Locs × Heap) T 0 23 (callC T known0 0 0) (Code.sub (bodyOf Try.f23) [1, 1, 1]) (([.ptr (some (s, 0)), .undef, .int .i64 0, .int .i64 (n : Int)] ++ List.replicate 6 .undef ++ [.ptr (some (bi, 0))] ++ List.replicate 12 .undef : Env).set LU.tn (.tuple [.bool false]) |>.set LU.tb (.bool false)) l σ (fun x e l σ => some (x, e, l, σ)) =
    some (.ret, [.ptr (some (s, 0)), .undef, .int .i64 (n : Int), .int .i64 (n : Int)] ++ List.replicate 6 .undef ++ [.ptr (some (bi, 0)), .tuple [.bool false], .bool false] ++ List.replicate 9 .undef ++ [.int .i64 (n : Int)], l, σ) := by kernel_rfl
theorem used_code : bodyOf Try.f23 = .seq (Code.sub (bodyOf Try.f23) [0]) (.seq (Code.sub (bodyOf Try.f23) [1, 0]) (.seq LU.code (Code.sub (bodyOf Try.f23) [1, 1, 1]))) := by kernel_rfl
theorem used_parts : goodCode T 23 LU.B = true ∧ goodCode T 23 (Code.sub (bodyOf Try.f23) [0]) = true ∧ goodCode T 23 (Code.sub (bodyOf Try.f23) [1, 0]) = true ∧ goodCode T 23 (Code.sub (bodyOf Try.f23) [1, 1, 1]) = true := ⟨by kernel_rfl, by kernel_rfl, by kernel_rfl, by kernel_rfl⟩
theorem used_ty : ∃ i kt et, T.ti LU.t = some i ∧ i.kind = .map kt et := ⟨{ shape := [.map], agg := false, bytes := 8, kind := .map 9 73 }, 9, 73, by kernel_rfl, rfl⟩
end Go.Abs.TC
namespace Go.Abs.TC
open Go Go.Abs Go.Proofs

theorem St.bm_lt {σ : Heap} {m : Mode} {d : SD} (h : St σ m d) : d.bm < σ.length := (List.getElem?_eq_some_iff.1 h.mp).1
theorem FileIn.lt {σ : Heap} {m : Mode} {f : FD} (h : FileIn σ m f) : f.p < σ.length := (List.getElem?_eq_some_iff.1 h.row).1
theorem used_mask (s bi : Nat) (bm : Nat) (fs : List FD) : maskE [6, 7, 8, 9] ((EU1 s bm).set LU.it (.ptr (some (bi, 0)))) = EU s bi fs [] := by kernel_rfl
theorem used_mask2 (s bi p n o : Nat) (c : Option Nat) (k : AVal) (fs : List FD) (js js' : List Nat) (x : Int) (hx : x = (sumAt fs js' : Int)) :
    maskE [5, 11, 12, 13, 14, 15, 16, 17, 18, 19, 20, 21] ([.ptr (some (s, 0)), .undef, .int .i64 0, .int .i64 x, .undef, .ptr (some (p, 0))] ++ List.replicate 4 .undef ++ [.ptr (some (bi, 0)), .tuple [.bool true, k, .ptr (some (p, 0))], .bool true, .tuple [k, .ptr (some (p, 0))], .ptr (some (p, 0)), .int .i64 (sumAt fs js : Int), .ptr (some (p, 0)), .ptr (some (p, 0)), .ptr (some (p, 0)), .slice c o n 1, .int .i64 (n : Int), .int .i64 x, .undef]) = EU s bi fs js' := by
  subst hx
  kernel_rfl
theorem used_call {σ : Heap} {d : SD} (h : St σ .ro d) : CallOK Try.prog T 23 [.ptr (some (d.s, 0))] σ (.int .i64 (usedF d.fs : Int)) (σ ++ [.row [] .dead]) := by
  have hu := h.sz
  have hlen : (d.fs.map ent).length = d.fs.length := by simp
  have key : CodeOK Try.prog T LU.code ([.ptr (some (d.s, 0)), .undef, .int .i64 0, .int .i64 0] ++ List.replicate 19 .undef) (List.replicate 23 .none) σ .normal
      (((EU d.s σ.length d.fs (List.range d.fs.length)).set LU.tn (.tuple [.bool false])).set LU.tb (.bool false)) (List.replicate 23 .none) (σ ++ [.row [] .dead]) := by
    refine range_rule ok LU LU_ok used_ty (fun js => EU d.s σ.length d.fs js) (fun _ => σ ++ [.row [] .dead]) (trace_of ok (used_pre (List.replicate 23 .none) (h.c0 trivial))) (bm := d.bm) (es := d.fs.map ent) (by kernel_rfl) (fun t b => ?_) (fun _ _ => ?_) h.mp ?_ rfl (fun js _ => by kernel_rfl) (fun js _ => ?_) (fun js j k v hs hkv => ?_) (fun js hs hl => ?_)
    · intro e
      rw [List.getD, List.getElem?_replicate] at e
      split at e <;> cases e
    · rw [List.getElem?_append_left h.bm_lt]; exact h.mp
    · rw [← used_mask d.s σ.length d.bm d.fs]
      exact EWeak.mask _ _
    · rw [show (EU d.s σ.length d.fs js).length = 23 from by kernel_rfl]
      exact ⟨by decide +kernel, by decide +kernel, by decide +kernel, by decide +kernel⟩
    · rw [hlen] at hs
      obtain ⟨f, hf, ef⟩ : ∃ f, d.fs[j]? = some f ∧ ent f = (k, v) := by
        rw [List.getElem?_map] at hkv
        exact Option.map_eq_some_iff.1 hkv
      simp only [ent, Prod.mk.injEq] at ef
      obtain ⟨rfl, rfl⟩ := ef
      have hfm := List.mem_of_getElem? hf
      have g := h.file f hfm
      have hc : slice? ((σ ++ [Blk.row [] .dead]).cell? f.p 0) 1 = some (f.sl.b, f.sl.o, f.sl.n) := by
        unfold Heap.cell?
        rw [row?_congr (σ := σ) (List.getElem?_append_left g.lt)]
        exact g.c0 trivial
      have hsum : IntKind.i64.wrap ((sumAt d.fs js : Int) + (f.sl.n : Int)) = (sumAt d.fs (js ++ [j]) : Int) := by
        have e1 : sumAt d.fs (js ++ [j]) = sumAt d.fs js + f.sl.n := by
          simp only [sumAt, List.map_append, List.sum_append, List.map_cons, List.map_nil, List.sum_cons, List.sum_nil, lenAt, hf, Option.map_some, Option.getD_some, g.n]
          omega
        have := sumAt_le hs
        rw [wrap_i64_of (by omega) (by omega)]
        omega
      refine ⟨_, _, trace_of ok (used_os4 _), code_of ok known0_ok used_parts.1 (used_body (k := .str f.name) _ hc), ?_⟩
      rw [← used_mask2 d.s σ.length f.p f.sl.n f.sl.o f.sl.b (.str f.name) d.fs js (js ++ [j]) _ hsum]
      exact EWeak.mask _ _
    · rw [hlen] at hs hl
      refine ⟨?_, rfl⟩
      unfold EU
      rw [sumAt_all hs hl, sumAt_range]
  have full : CodeOK Try.prog T (bodyOf Try.f23) ([.ptr (some (d.s, 0))] ++ List.replicate 22 .undef) (List.replicate 23 .none) σ .ret ([.ptr (some (d.s, 0)), .undef, .int .i64 (usedF d.fs : Int), .int .i64 (usedF d.fs : Int)] ++ List.replicate 6 .undef ++ [.ptr (some (σ.length, 0)), .tuple [.bool false], .bool false] ++ List.replicate 9 .undef ++ [.int .i64 (usedF d.fs : Int)]) (List.replicate 23 .none) (σ ++ [.row [] .dead]) := by
    rw [used_code]
    refine code_seq (code_of ok known0_ok used_parts.2.1 (used_h0 d.s _)) (code_seq (code_of ok known0_ok used_parts.2.2.1 (used_h1 d.s _)) (code_seq key ?_))
    unfold EU
    rw [sumAt_range]
    exact code_of ok known0_ok used_parts.2.2.2 (used_tail d.s σ.length (usedF d.fs) _)
  refine call_code ok fn_file_Store_Used (c := bodyOf Try.f23) (by kernel_rfl) (x := .ret) full (.inr rfl) (by kernel_rfl)

noncomputable def w_file_Store_Used (s : Pt) (σ : Heap) : Option (Int × Heap) :=
  wOf (fun d : SD => s = some (d.s, 0) ∧ ∃ m, Mode.rd m ∧ St σ m d) fun d => ((usedF d.fs : Int), σ)
theorem w_file_Store_Used_eq {σ : Heap} {m : Mode} {d : SD} (hm : Mode.rd m) (h : St σ m d) : w_file_Store_Used (some (d.s, 0)) σ = some ((usedF d.fs : Int), σ) :=
  wOf_eq (P := fun e : SD => some (d.s, 0) = some (e.s, 0) ∧ ∃ m, Mode.rd m ∧ St σ m e) (f := fun e => ((usedF e.fs : Int), σ)) ⟨rfl, m, hm, h⟩ fun e ⟨h1, m', _, h2⟩ => by
    injection h1 with h1
    injection h1 with h1 _
    rw [h.uniq h2 h1]
theorem frz_frz (σ : Heap) : σ.frz.frz = σ.frz := by
  simp only [Heap.frz, List.map_map]
  congr 1
  funext x
  cases x with
  | row cs m => cases m <;> rfl
  | map es m => cases m <;> rfl
theorem St.toRO {σ : Heap} {m : Mode} {d : SD} (hm : Mode.rd m) (h : St σ m d) : St σ.frz .ro d := by
  cases m with
  | dead => exact hm.elim
  | rw => exact h.frz
  | ro =>
    refine ⟨by rw [Heap.frz_get, h.hd]; rfl, by rw [Heap.frz_get, h.mp]; rfl, fun f hf => ?_, h.nd, h.names, h.used, h.sz, h.q, h.nok⟩
    have g := h.file f hf
    exact ⟨by rw [Heap.frz_get, g.row]; rfl, g.o, g.n, g.sure, g.data.imp id fun ⟨b, cs, h1, h2, h3⟩ => ⟨b, cs, h1, by rw [Heap.frz_get, h2]; rfl, h3⟩⟩
theorem ok_file_Store_Used : Ok_file_Store_Used w_file_Store_Used := fun s σ v σ' h => by
  obtain ⟨d, ⟨rfl, m, hm, hd⟩, e⟩ := wOf_some h
  injection e with e1 e2
  subst e1; subst e2
  exact call_reads (used_call (hd.toRO hm)) rfl
end Go.Abs.TC
namespace Go.Abs.TC
open Go Go.Abs Go.Proofs

/-! ### The store, plain -/
structure Fil where
  name : ByteArray
  data : List UInt8
  sure : Nat
structure Sto where
  fs : List Fil
  quota : Nat
  armed : Bool
  left : Int
  down : Bool
def FD.fil (f : FD) : Fil := ⟨f.name, f.data, f.sure⟩
def SD.sto (d : SD) : Sto := ⟨d.fs.map FD.fil, d.quota, d.armed, d.left, d.down⟩
def Sto.get (t : Sto) (n : ByteArray) : Option Fil := getK Fil.name n t.fs
def Sto.used (t : Sto) : Nat := (t.fs.map fun f => f.data.length).sum
theorem SD.get_sto (d : SD) (n : ByteArray) : d.sto.get n = (d.get n).map FD.fil := getK_map (fun _ => rfl) n d.fs
theorem SD.used_sto (d : SD) : d.sto.used = usedF d.fs := by
  simp only [Sto.used, SD.sto, usedF, List.map_map]
  rfl
/-- May it be a name? -/
def nameOk (n : ByteArray) : Bool := decide (n.size ≠ 0 ∧ n.size ≤ 12)
/-- May there be a change? -/
def Sto.change (t : Sto) : Int × Sto :=
  if t.armed ∧ t.left = 0 then (8, { t with down := true }) else if t.armed then (0, { t with left := t.left - 1 }) else (0, t)

/-! ### What a call leaves -/
/-- No other block turns; those that the store has are its own, or new. -/
structure Fr (σ : Heap) (d : SD) (σ' : Heap) (d' : SD) : Prop where
  len : σ.length ≤ σ'.length
  at_ : ∀ b, b < σ.length → b ∉ d.foot → σ'[b]? = σ[b]?
  foot : ∀ b ∈ d'.foot, b ∈ d.foot ∨ σ.length ≤ b
  s : d'.s = d.s
section
variable {σ σ' σ'' : Heap} {d d' d'' : SD} {m : Mode}
theorem Fr.refl : Fr σ d σ d := ⟨Nat.le_refl _, fun _ _ _ => rfl, fun _ h => .inl h, rfl⟩
theorem Fr.trans (h : Fr σ d σ' d') (k : Fr σ' d' σ'' d'') : Fr σ d σ'' d'' where
  len := Nat.le_trans h.len k.len
  at_ := fun b hb hn => by
    have := h.len
    rw [k.at_ b (by omega) (fun hm => by
      rcases h.foot b hm with h1 | h1
      · exact hn h1
      · omega), h.at_ b hb hn]
  foot := fun b hm => by
    have := h.len
    rcases k.foot b hm with h1 | h1
    · exact h.foot b h1
    · exact .inr (by omega)
  s := k.s.trans h.s
theorem St.foot_lt (h : St σ m d) {b : Nat} (hb : b ∈ d.foot) : b < σ.length := by
  simp only [SD.foot, List.mem_cons, List.mem_flatMap, FD.blocks, Option.mem_toList] at hb
  rcases hb with rfl | rfl | ⟨f, hf, rfl | hb⟩
  · exact (List.getElem?_eq_some_iff.1 h.hd).1
  · exact h.bm_lt
  · exact (h.file f hf).lt
  · rcases (h.file f hf).data with ⟨h1, _⟩ | ⟨c, cs, h1, h2, _⟩
    · rw [h1] at hb; cases hb
    · rw [h1] at hb
      injection hb with hb
      subst hb
      exact (List.getElem?_eq_some_iff.1 h2).1
/-- A row that can only be read is none of the store's. -/
theorem St.ro_out (h : St σ .rw d) {b : Nat} {cs : List AVal} (hb : σ[b]? = some (.row cs .ro)) : b ∉ d.foot := by
  intro hm
  simp only [SD.foot, List.mem_cons, List.mem_flatMap, FD.blocks, Option.mem_toList] at hm
  rcases hm with rfl | rfl | ⟨f, hf, rfl | hm⟩
  · rw [h.hd] at hb; cases hb
  · rw [h.mp] at hb; cases hb
  · rw [(h.file f hf).row] at hb; cases hb
  · rcases (h.file f hf).data with ⟨h1, _⟩ | ⟨c, cs', h1, h2, _⟩
    · rw [h1] at hm; cases hm
    · rw [h1] at hm
      injection hm with hm
      subst hm
      rw [h2] at hb; cases hb
theorem Fr.ro (k : Fr σ d σ' d') (h : St σ .rw d) {b : Nat} {cs : List AVal} (hb : σ[b]? = some (.row cs .ro)) : σ'[b]? = some (.row cs .ro) := by
  rw [k.at_ b (List.getElem?_eq_some_iff.1 hb).1 (h.ro_out hb)]; exact hb
/-- Where the store's blocks are as they were, it is so. -/
theorem St.same (h : St σ m d) (e : ∀ b ∈ d.foot, σ'[b]? = σ[b]?) : St σ' m d where
  hd := (e _ (by simp [SD.foot])).trans h.hd
  mp := (e _ (by simp [SD.foot])).trans h.mp
  file := fun f hf => by
    have g := h.file f hf
    have hin : ∀ b ∈ FD.blocks f, b ∈ d.foot := fun b hb => by simp only [SD.foot, List.mem_cons, List.mem_flatMap]; exact .inr (.inr ⟨f, hf, hb⟩)
    exact ⟨(e _ (hin _ (by simp [FD.blocks]))).trans g.row, g.o, g.n, g.sure, g.data.imp id fun ⟨b, cs, h1, h2, h3⟩ => ⟨b, cs, h1, (e _ (hin _ (by simp [FD.blocks, h1]))).trans h2, h3⟩⟩
  nd := h.nd
  names := h.names
  used := h.used
  sz := h.sz
  q := h.q
  nok := h.nok
theorem St.pre (h : St σ m d) (hp : σ <+: σ') : St σ' m d := h.same fun _ hb => get_pre hp (h.foot_lt hb)
theorem Fr.of_pre (hp : σ <+: σ') : Fr σ d σ' d := ⟨hp.length_le, fun _ hb _ => get_pre hp hb, fun _ h => .inl h, rfl⟩
end

/-! ### Lists of files that turn -/
section
variable {fs : List FD} {f f' x : FD} {n : ByteArray}
theorem usedF_put_none : ∀ {fs : List FD}, getK FD.name x.name fs = none → usedF (putK FD.name x fs) = usedF fs + x.data.length ∧ (putK FD.name x fs).length = fs.length + 1
  | fs, h => by rw [putK_none h]; simp [usedF]
theorem usedF_put : ∀ {fs : List FD}, getK FD.name x.name fs = some f → usedF (putK FD.name x fs) + f.data.length = usedF fs + x.data.length ∧ (putK FD.name x fs).length = fs.length
  | [], h => by cases h
  | g :: r, h => by
    simp only [getK] at h
    simp only [putK]
    split at h
    · rename_i e
      injection h with h
      subst h
      rw [if_pos e, usedF_cons, usedF_cons]
      exact ⟨by omega, rfl⟩
    · rename_i e
      obtain ⟨h1, h2⟩ := usedF_put h
      rw [if_neg e, usedF_cons, usedF_cons]
      exact ⟨by omega, by simp [h2]⟩
theorem usedF_del : ∀ {fs : List FD}, getK FD.name n fs = some f → usedF (delK FD.name n fs) + f.data.length = usedF fs ∧ (delK FD.name n fs).length + 1 = fs.length
  | [], h => by cases h
  | g :: r, h => by
    simp only [getK] at h
    simp only [delK]
    split at h
    · rename_i e
      injection h with h
      subst h
      rw [if_pos e, usedF_cons]
      exact ⟨by omega, rfl⟩
    · rename_i e
      obtain ⟨h1, h2⟩ := usedF_del h
      rw [if_neg e, usedF_cons, usedF_cons]
      exact ⟨by omega, by simp [h2]⟩
theorem put_ent : ∀ {fs : List FD}, getK FD.name x.name fs = some f → x.p = f.p → (putK FD.name x fs).map ent = fs.map ent
  | [], h, _ => by cases h
  | g :: r, h, hp => by
    simp only [getK] at h
    simp only [putK]
    split at h
    · rename_i e
      injection h with h
      subst h
      rw [if_pos e, List.map_cons, List.map_cons]
      simp [ent, hp, e]
    · rename_i e
      rw [if_neg e, List.map_cons, List.map_cons, put_ent h hp]
theorem names_put (hn : (fs.map FD.name).Nodup) : ((putK FD.name x fs).map FD.name).Nodup := by
  cases h : getK FD.name x.name fs with
  | none =>
    rw [putK_none h, List.map_append, List.nodup_append]
    refine ⟨hn, by simp, fun a ha b hb e => ?_⟩
    simp at hb
    subst hb; subst e
    obtain ⟨y, hy, he⟩ := List.mem_map.1 ha
    exact getK_none.1 h y hy he
  | some g => rw [putK_keys ⟨g, h⟩]; exact hn
theorem names_del (hn : (fs.map FD.name).Nodup) : ((delK FD.name n fs).map FD.name).Nodup := ((delK_sub fs).map _).nodup hn
/-- Who is of another name stays. -/
theorem mem_put_ne {y : FD} (hn : (fs.map FD.name).Nodup) (h : y ∈ putK FD.name x fs) : y = x ∨ (y ∈ fs ∧ y.name ≠ x.name) := by
  induction fs with
  | nil => simp [putK] at h; exact .inl h
  | cons g r ih =>
    simp only [List.map_cons, List.nodup_cons] at hn
    simp only [putK] at h
    split at h
    · rename_i e
      rcases List.mem_cons.1 h with h | h
      · exact .inl h
      · exact .inr ⟨List.mem_cons_of_mem _ h, fun e' => hn.1 (List.mem_map.2 ⟨y, h, e'.trans e.symm⟩)⟩
    · rename_i e
      rcases List.mem_cons.1 h with rfl | h
      · exact .inr ⟨List.mem_cons_self, e⟩
      · exact (ih hn.2 h).imp id fun h => ⟨List.mem_cons_of_mem _ h.1, h.2⟩
theorem mem_del_ne {y : FD} (hn : (fs.map FD.name).Nodup) (h : y ∈ delK FD.name n fs) : y ∈ fs ∧ y.name ≠ n := by
  induction fs with
  | nil => simp [delK] at h
  | cons g r ih =>
    simp only [List.map_cons, List.nodup_cons] at hn
    simp only [delK] at h
    split at h
    · rename_i e
      exact ⟨List.mem_cons_of_mem _ h, fun e' => hn.1 (List.mem_map.2 ⟨y, h, e'.trans e.symm⟩)⟩
    · rename_i e
      rcases List.mem_cons.1 h with rfl | h
      · exact ⟨List.mem_cons_self, e⟩
      · exact ⟨List.mem_cons_of_mem _ (ih hn.2 h).1, (ih hn.2 h).2⟩
theorem pair_put {R : FD → FD → Prop} (hn : (fs.map FD.name).Nodup) (hp : fs.Pairwise R) (h : ∀ y ∈ fs, y.name ≠ x.name → R y x ∧ R x y) : (putK FD.name x fs).Pairwise R := by
  induction fs with
  | nil => simp [putK]
  | cons g r ih =>
    have hn0 := hn
    simp only [List.map_cons, List.nodup_cons] at hn
    rw [List.pairwise_cons] at hp
    simp only [putK]
    split
    · rename_i e
      rw [List.pairwise_cons]
      exact ⟨fun y hy => (h y (List.mem_cons_of_mem _ hy) fun e' => hn.1 (List.mem_map.2 ⟨y, hy, e'.trans e.symm⟩)).2, hp.2⟩
    · rename_i e
      rw [List.pairwise_cons]
      refine ⟨fun y hy => ?_, ih hn.2 hp.2 fun y hy => h y (List.mem_cons_of_mem _ hy)⟩
      rcases mem_put_ne hn.2 hy with rfl | ⟨hy, _⟩
      · exact (h g List.mem_cons_self e).1
      · exact hp.1 y hy
theorem apart_get {d : SD} (nd : Nd d) (_hn : (d.fs.map FD.name).Nodup) {f g : FD} (hf : f ∈ d.fs) (hg : g ∈ d.fs) (hne : f.name ≠ g.name) : ∀ b ∈ f.blocks, b ∉ g.blocks := by
  have := nd.apart
  obtain ⟨i, hi⟩ := List.mem_iff_getElem?.1 hf
  obtain ⟨j, hj⟩ := List.mem_iff_getElem?.1 hg
  have hil := (List.getElem?_eq_some_iff.1 hi)
  have hjl := (List.getElem?_eq_some_iff.1 hj)
  rw [List.pairwise_iff_getElem] at this
  rcases Nat.lt_trichotomy i j with h | h | h
  · have := (this i j hil.1 hjl.1 h).1
    rw [hil.2, hjl.2] at this
    exact this
  · subst h
    rw [hi] at hj
    injection hj with hj
    exact absurd (congrArg FD.name hj) hne
  · have := (this j i hjl.1 hil.1 h).2
    rw [hil.2, hjl.2] at this
    exact this
end
section
variable {σ σ' : Heap} {d : SD} {f f' : FD} {n : ByteArray}
theorem SD.mem_foot {b : Nat} : b ∈ d.foot ↔ b = d.s ∨ b = d.bm ∨ ∃ f ∈ d.fs, b ∈ f.blocks := by
  simp only [SD.foot, List.mem_cons, List.mem_flatMap]
/-- A file turns in place. -/
theorem St.putFile (h : St σ .rw d) (hf : d.get n = some f) (hn' : f'.name = n) (hp : f'.p = f.p) (hrow : FileIn σ' .rw f') (hlen : σ.length ≤ σ'.length) (heq : ∀ b, b < σ.length → b ∉ f.blocks → σ'[b]? = σ[b]?)
    (hbl : ∀ b ∈ f'.blocks, b ∈ f.blocks ∨ σ.length ≤ b) (hnd : f'.blocks.Nodup) (hu : usedF d.fs + f'.data.length ≤ d.quota + f.data.length) (hsz : usedF d.fs + d.fs.length + f'.data.length ≤ 1000000 + f.data.length) :
    St σ' .rw { d with fs := putK FD.name f' d.fs } ∧ Fr σ d σ' { d with fs := putK FD.name f' d.fs } := by
  subst hn'
  obtain ⟨hfm, hfn⟩ := getK_mem (k := FD.name) hf
  obtain ⟨u1, u2⟩ := usedF_put (x := f') hf
  have hout := h.nd.out f hfm
  have keep : ∀ b ∈ d.foot, b ∉ f.blocks → σ'[b]? = σ[b]? := fun b hb hn => heq b (h.foot_lt hb) hn
  have old : ∀ b ∈ d.foot, b < σ.length := fun b hb => h.foot_lt hb
  refine ⟨⟨?_, ?_, fun g hg => ?_, ⟨h.nd.sb, fun g hg => ?_, fun g hg => ?_, ?_⟩, names_put h.names, by simp only; omega, by simp only; omega, h.q, fun g hg => ?_⟩, ⟨hlen, fun b hb hn => ?_, fun b hb => ?_, rfl⟩⟩
  · exact (keep d.s (by simp [SD.foot]) hout.1).trans h.hd
  · rw [show (putK FD.name f' d.fs).map ent = d.fs.map ent from put_ent hf hp]
    exact (keep d.bm (by simp [SD.foot]) hout.2).trans h.mp
  · rcases mem_put_ne h.names hg with rfl | ⟨hg, hne⟩
    · exact hrow
    · have g0 := h.file g hg
      have hd := apart_get h.nd h.names hg hfm (by rw [hfn]; exact hne)
      have hk : ∀ b ∈ g.blocks, σ'[b]? = σ[b]? := fun b hb => keep b (SD.mem_foot.2 (.inr (.inr ⟨g, hg, hb⟩))) (hd b hb)
      exact ⟨(hk _ (by simp [FD.blocks])).trans g0.row, g0.o, g0.n, g0.sure, g0.data.imp id fun ⟨b, cs, h1, h2, h3⟩ => ⟨b, cs, h1, (hk _ (by simp [FD.blocks, h1])).trans h2, h3⟩⟩
  · rcases mem_put_ne h.names hg with rfl | ⟨hg, hne⟩
    · have o1 := old d.s (by simp [SD.foot])
      have o2 := old d.bm (by simp [SD.foot])
      exact ⟨fun hm => (hbl _ hm).elim hout.1 fun h1 => absurd h1 (Nat.not_le.2 o1), fun hm => (hbl _ hm).elim hout.2 fun h1 => absurd h1 (Nat.not_le.2 o2)⟩
    · exact h.nd.out g hg
  · rcases mem_put_ne h.names hg with rfl | ⟨hg, _⟩
    · exact hnd
    · exact h.nd.each g hg
  · refine pair_put h.names h.nd.apart fun y hy hne => ?_
    have hd := apart_get h.nd h.names hy hfm (by rw [hfn]; exact hne)
    have key : ∀ b ∈ y.blocks, b ∉ f'.blocks := fun b hb hb' => by
      rcases hbl b hb' with h1 | h1
      · exact hd b hb h1
      · have := old b (SD.mem_foot.2 (.inr (.inr ⟨y, hy, hb⟩))); omega
    exact ⟨⟨key, fun b hb hb' => key b hb' hb⟩, ⟨fun b hb hb' => key b hb' hb, key⟩⟩
  · rcases mem_put_ne h.names hg with rfl | ⟨hg, _⟩
    · rw [← hfn]; exact h.nok f hfm
    · exact h.nok g hg
  · exact heq b hb fun hm => hn (SD.mem_foot.2 (.inr (.inr ⟨f, hfm, hm⟩)))
  · rcases SD.mem_foot.1 hb with rfl | rfl | ⟨g, hg, hm⟩
    · exact .inl (by simp [SD.foot])
    · exact .inl (by simp [SD.foot])
    · rcases mem_put_ne h.names hg with rfl | ⟨hg, _⟩
      · exact (hbl b hm).imp (fun h1 => SD.mem_foot.2 (.inr (.inr ⟨f, hfm, h1⟩))) id
      · exact .inl (SD.mem_foot.2 (.inr (.inr ⟨g, hg, hm⟩)))
/-- The head turns. -/
theorem St.setHead (h : St σ .rw d) (armed : Bool) (left : Int) (down : Bool) :
    St (σ.set d.s (.row ({ d with armed := armed, left := left, down := down } : SD).head .rw)) .rw { d with armed := armed, left := left, down := down } ∧
    Fr σ d (σ.set d.s (.row ({ d with armed := armed, left := left, down := down } : SD).head .rw)) { d with armed := armed, left := left, down := down } := by
  have hs := (List.getElem?_eq_some_iff.1 h.hd).1
  have hne : ∀ b, b ≠ d.s → (σ.set d.s (.row ({ d with armed := armed, left := left, down := down } : SD).head .rw))[b]? = σ[b]? := fun b hb => List.getElem?_set_ne (Ne.symm hb)
  refine ⟨⟨by simp [hs], (hne _ h.nd.sb.symm).trans h.mp, fun f hf => ?_, ⟨h.nd.sb, h.nd.out, h.nd.each, h.nd.apart⟩, h.names, h.used, h.sz, h.q, h.nok⟩, ⟨by simp, fun b _ hb => hne b fun e => hb (by simp [SD.foot, e]), fun b hb => .inl hb, rfl⟩⟩
  have g := h.file f hf
  have ho := h.nd.out f hf
  have hk : ∀ b ∈ f.blocks, b ≠ d.s := fun b hb e => ho.1 (e ▸ hb)
  exact ⟨(hne _ (hk _ (by simp [FD.blocks]))).trans g.row, g.o, g.n, g.sure, g.data.imp id fun ⟨b, cs, h1, h2, h3⟩ => ⟨b, cs, h1, (hne _ (hk _ (by simp [FD.blocks, h1]))).trans h2, h3⟩⟩
/-- The map turns: the same files, or fewer; one may have another name, or be new. -/
theorem St.setMap {σ0 : Heap} (h : St σ .rw d) (hp : σ0 <+: σ) {fs' : List FD} (hfile : ∀ g ∈ fs', FileIn σ .rw g ∧ d.s ∉ g.blocks ∧ d.bm ∉ g.blocks ∧ g.blocks.Nodup ∧ (g.name.size ≠ 0 ∧ g.name.size ≤ 12)) (hap : fs'.Pairwise fun f g => (∀ b ∈ f.blocks, b ∉ g.blocks) ∧ ∀ b ∈ g.blocks, b ∉ f.blocks)
    (hn : (fs'.map FD.name).Nodup) (hu : usedF fs' ≤ d.quota) (hsz : usedF fs' + fs'.length ≤ 1000000) (hblk : ∀ g ∈ fs', ∀ b ∈ g.blocks, b ∈ d.foot ∨ σ0.length ≤ b) :
    St (σ.set d.bm (.map (fs'.map ent) .rw)) .rw { d with fs := fs' } ∧ Fr σ0 d (σ.set d.bm (.map (fs'.map ent) .rw)) { d with fs := fs' } := by
  have hb := h.bm_lt
  have hne : ∀ b, b ≠ d.bm → (σ.set d.bm (.map (fs'.map ent) .rw))[b]? = σ[b]? := fun b hb => List.getElem?_set_ne (Ne.symm hb)
  refine ⟨⟨(hne _ h.nd.sb).trans h.hd, by simp [hb], fun f hf => ?_, ⟨h.nd.sb, fun g hg => ⟨(hfile g hg).2.1, (hfile g hg).2.2.1⟩, fun g hg => (hfile g hg).2.2.2.1, hap⟩, hn, hu, hsz, h.q, fun g hg => (hfile g hg).2.2.2.2⟩, ⟨by rw [List.length_set]; exact hp.length_le, fun b hl hb => (hne b fun e => hb (by simp [SD.foot, e])).trans (get_pre hp hl), fun b hb => ?_, rfl⟩⟩
  · obtain ⟨g, _, ho, _⟩ := hfile f hf
    have hk : ∀ b ∈ f.blocks, b ≠ d.bm := fun b hb e => ho (e ▸ hb)
    exact ⟨(hne _ (hk _ (by simp [FD.blocks]))).trans g.row, g.o, g.n, g.sure, g.data.imp id fun ⟨b, cs, h1, h2, h3⟩ => ⟨b, cs, h1, (hne _ (hk _ (by simp [FD.blocks, h1]))).trans h2, h3⟩⟩
  · rcases SD.mem_foot.1 hb with rfl | rfl | ⟨g, hg, hm⟩
    · exact .inl (by simp [SD.foot])
    · exact .inl (by simp [SD.foot])
    · exact hblk g hg b hm
end
end Go.Abs.TC
namespace Go.Abs.TC
open Go Go.Abs Go.Proofs

/-! ### Told by what is done to a store -/
noncomputable def stRel {β : Type} (F : FuncId) (args : List AVal) (av : β → AVal) (s : Pt) (op : Sto → Option (β × Sto)) (σ : Heap) : Option (β × Heap) :=
  wRel fun v σ' => CallOK Try.prog T F args σ (av v) σ' ∧ ∀ d r, s = some (d.s, 0) → St σ .rw d → op d.sto = some r → v = r.1 ∧ ∃ d', St σ' .rw d' ∧ Fr σ d σ' d' ∧ d'.sto = r.2
section
variable {β : Type} {F : FuncId} {args : List AVal} {av : β → AVal} {s : Pt} {op : Sto → Option (β × Sto)} {σ σ' : Heap} {d : SD} {v : β} {r : β × Sto}
theorem stRel_ok (h : stRel F args av s op σ = some (v, σ')) : CallOK Try.prog T F args σ (av v) σ' := (wRel_some h).1
theorem stRel_ex (hd : St σ .rw d) (hop : op d.sto = some r) (hc : ∃ σ' d', CallOK Try.prog T F args σ (av r.1) σ' ∧ St σ' .rw d' ∧ Fr σ d σ' d' ∧ d'.sto = r.2) :
    ∃ σ' d', stRel F args av (some (d.s, 0)) op σ = some (r.1, σ') ∧ St σ' .rw d' ∧ Fr σ d σ' d' ∧ d'.sto = r.2 := by
  obtain ⟨σ', d', h1, h2, h3, h4⟩ := hc
  obtain ⟨x, hx, _, h6⟩ := wRel_ex (P := fun v σ' => CallOK Try.prog T F args σ (av v) σ' ∧ ∀ d1 r, some (d.s, 0) = some (d1.s, 0) → St σ .rw d1 → op d1.sto = some r → v = r.1 ∧ ∃ d', St σ' .rw d' ∧ Fr σ d1 σ' d' ∧ d'.sto = r.2) (v := r.1) (σ := σ')
    ⟨h1, fun d1 r1 e1 g1 g2 => by
      injection e1 with e1
      injection e1 with e1 _
      obtain rfl := hd.uniq g1 e1
      rw [hop] at g2
      injection g2 with g2
      subst g2
      exact ⟨rfl, d', h2, h3, h4⟩⟩
  obtain ⟨g1, d2, g2, g3, g4⟩ := h6 d r rfl hd hop
  refine ⟨x.2, d2, ?_, g2, g3, g4⟩
  unfold stRel
  rw [hx, ← g1]
end

/-! ### named -/
noncomputable def w_file_named (n : ByteArray) (σ : Heap) : Option (Bool × Heap) := some (nameOk n, σ)
theorem ok_file_named : Ok_file_named w_file_named := fun n σ v σ' h => by
  injection h with h
  injection h with h1 h2
  subst h1; subst h2
  refine call_ok ok known0_ok (L := 0) (n := 2) ((file_named_eq 0 n σ _).trans ?_)
  rw [ba_beq]
  by_cases e : n = ⟨#[]⟩
  · subst e; rfl
  · have hz : n.size ≠ 0 := fun h0 => e (ba_empty h0)
    rw [decide_eq_false e]
    simp only [Bool.not_false, cond_true, tBool, nameOk]
    by_cases hl : n.size ≤ 12
    · rw [decide_eq_true (show (n.size : Int) ≤ 12 by omega), decide_eq_true ⟨hz, hl⟩]
    · rw [decide_eq_false (show ¬ (n.size : Int) ≤ 12 by omega), decide_eq_false (fun h => hl h.2)]

/-! ### find -/
def findV (d : SD) (n : ByteArray) : Pt × Int := bif d.down then (none, 8) else match d.get n with
  | none => (none, 4)
  | some f => (some (f.p, 0), 0)
section
variable {σ : Heap} {m : Mode} {d : SD}
theorem find_run (hm : Mode.rd m) (h : St σ m d) (n : ByteArray) {R : Type} (K : AVal → Heap → Option R) : callC T known0 0 2 43 [.ptr (some (d.s, 0)), .str n] σ K = K (.tuple [.ptr (findV d n).1, .int .i64 (findV d n).2]) σ := by
  rw [file_Store_find_eq, Option.bind_some]
  dsimp only
  rw [h.c0 hm, Option.bind_some, h.look hm, Option.bind_some, ptr_ptrOf, Option.bind_some, Option.bind_some, h.c4 hm, Option.bind_some]
  unfold findV
  cases d.down with
  | true => rfl
  | false =>
    cases d.get n with
    | none => rfl
    | some f => rfl
/-- What a call tells that only reads the store. -/
noncomputable def rdRel {β : Type} (s : Pt) (f : SD → β) (σ : Heap) : Option (β × Heap) :=
  wOf (fun d : SD => s = some (d.s, 0) ∧ ∃ m, Mode.rd m ∧ St σ m d) fun d => (f d, σ)
theorem rdRel_eq {β : Type} {f : SD → β} (hm : Mode.rd m) (h : St σ m d) : rdRel (some (d.s, 0)) f σ = some (f d, σ) :=
  wOf_eq (P := fun e : SD => some (d.s, 0) = some (e.s, 0) ∧ ∃ m, Mode.rd m ∧ St σ m e) (f := fun e => (f e, σ)) ⟨rfl, m, hm, h⟩ fun e ⟨h1, m', _, h2⟩ => by
    injection h1 with h1
    injection h1 with h1 _
    rw [h.uniq h2 h1]
theorem rdRel_some {β : Type} {s : Pt} {f : SD → β} {v : β} {σ' : Heap} (h : rdRel s f σ = some (v, σ')) : ∃ d m, s = some (d.s, 0) ∧ Mode.rd m ∧ St σ m d ∧ v = f d ∧ σ' = σ := by
  obtain ⟨d, ⟨h1, m, hm, hd⟩, e⟩ := wOf_some h
  injection e with e1 e2
  exact ⟨d, m, h1, hm, hd, e1.symm, e2.symm⟩
end
noncomputable def w_file_Store_find (s : Pt) (n : ByteArray) (σ : Heap) : Option ((Pt × Int) × Heap) := rdRel s (fun d => findV d n) σ
theorem ok_file_Store_find : Ok_file_Store_find w_file_Store_find := fun s n σ v σ' h => by
  obtain ⟨d, m, rfl, hm, hd, rfl, rfl⟩ := rdRel_some h
  exact call_ok ok known0_ok (L := 0) (n := 2) (find_run hm hd n _)

/-! ### Up, Sure -/
noncomputable def w_file_Store_Up (s : Pt) (σ : Heap) : Option (Bool × Heap) := rdRel s (fun d => !d.down) σ
theorem ok_file_Store_Up : Ok_file_Store_Up w_file_Store_Up := fun s σ v σ' h => by
  obtain ⟨d, m, rfl, hm, hd, rfl, rfl⟩ := rdRel_some h
  refine call_ok ok known0_ok (L := 0) (n := 2) ((file_Store_Up_eq 0 _ _ _).trans ?_)
  rw [Option.bind_some]
  dsimp only
  rw [hd.c4 hm, Option.bind_some]
  rfl
def sureV (d : SD) (n : ByteArray) : Int := match d.get n with | some f => (f.sure : Int) | none => 0
noncomputable def w_file_Store_Sure (s : Pt) (n : ByteArray) (σ : Heap) : Option (Int × Heap) := rdRel s (fun d => sureV d n) σ
theorem ok_file_Store_Sure : Ok_file_Store_Sure w_file_Store_Sure := fun s n σ v σ' h => by
  obtain ⟨d, m, rfl, hm, hd, rfl, rfl⟩ := rdRel_some h
  refine call_ok ok known0_ok (L := 0) (n := 2) ((file_Store_Sure_eq 0 _ _ _ _).trans ?_)
  rw [Option.bind_some]
  dsimp only
  rw [hd.c0 hm, Option.bind_some, hd.look hm, Option.bind_some, ptr_ptrOf, Option.bind_some]
  unfold sureV
  cases hg : d.get n with
  | none => rfl
  | some f =>
    have g := hd.file f (getK_mem hg).1
    simp only [ptOf, Option.isNone_some, Bool.not_false, cond_true, Option.bind_some]
    rw [g.c1 hm, Option.bind_some]
    rfl

/-! ### change, Fuse -/
theorem store_head {σ : Heap} {d : SD} (h : St σ .rw d) (o : Nat) (v : AVal) (ho : o < 5) : σ.store d.s o [v] = some (σ.set d.s (.row (d.head.set o v) .rw)) := by
  unfold Heap.store
  rw [h.hd]
  simp only [List.length_singleton]
  rw [if_pos (by simp [SD.head]; omega)]
  rfl
def LeftOk (d : SD) : Prop := d.armed = true → 0 ≤ d.left ∧ d.left ≤ 9223372036854775807
def changeD (d : SD) : Int × SD := bif d.armed then (if d.left = 0 then (8, { d with down := true }) else (0, { d with left := d.left - 1 })) else (0, d)
theorem set_self {σ : Heap} {b : Nat} {x : Blk} (h : σ[b]? = some x) : σ.set b x = σ := by
  refine List.ext_getElem? fun i => ?_
  by_cases e : i = b
  · subst e; rw [h, List.getElem?_set_self (List.getElem?_eq_some_iff.1 h).1]
  · rw [List.getElem?_set_ne (Ne.symm e)]
theorem changeD_eq (d : SD) : (changeD d).1 = d.sto.change.1 ∧ (changeD d).2.sto = d.sto.change.2 ∧ (changeD d).2.s = d.s ∧ (changeD d).2.bm = d.bm ∧ (changeD d).2.fs = d.fs ∧ (changeD d).2.quota = d.quota := by
  unfold changeD Sto.change
  simp only [SD.sto]
  rcases Bool.eq_false_or_eq_true d.armed with ha | ha
  · by_cases hz : d.left = 0
    · simp [ha, hz]
    · simp [ha, hz]
  · simp [ha]
theorem change_st {σ : Heap} {d : SD} (h : St σ .rw d) : St (σ.set d.s (.row (changeD d).2.head .rw)) .rw (changeD d).2 ∧ Fr σ d (σ.set d.s (.row (changeD d).2.head .rw)) (changeD d).2 := by
  unfold changeD
  rcases Bool.eq_false_or_eq_true d.armed with ha | ha
  · rw [ha, cond_true]
    by_cases hz : d.left = 0
    · rw [if_pos hz]; exact ha ▸ h.setHead d.armed d.left true
    · rw [if_neg hz]; exact ha ▸ h.setHead d.armed (d.left - 1) d.down
  · rw [ha, cond_false, set_self h.hd]; exact ⟨h, .refl⟩
noncomputable def w_file_Store_change (s : Pt) (σ : Heap) : Option (Int × Heap) := wOf (fun d : SD => s = some (d.s, 0) ∧ St σ .rw d ∧ LeftOk d) fun d => ((changeD d).1, σ.set d.s (.row (changeD d).2.head .rw))
theorem w_file_Store_change_eq {σ : Heap} {d : SD} (h : St σ .rw d) (hl : LeftOk d) : w_file_Store_change (some (d.s, 0)) σ = some ((changeD d).1, σ.set d.s (.row (changeD d).2.head .rw)) :=
  wOf_eq (P := fun e : SD => some (d.s, 0) = some (e.s, 0) ∧ St σ .rw e ∧ LeftOk e) (f := fun d => ((changeD d).1, σ.set d.s (.row (changeD d).2.head .rw))) ⟨rfl, h, hl⟩ fun e ⟨h1, h2, _⟩ => by
    injection h1 with h1
    injection h1 with h1 _
    rw [h.uniq h2 h1]
theorem ok_file_Store_change : Ok_file_Store_change w_file_Store_change := fun s σ v σ' hw => by
  obtain ⟨d, ⟨rfl, h, hl⟩, e⟩ := wOf_some hw
  injection e with e1 e2
  subst e1; subst e2
  have hr := file_Store_change_eq (R := AVal × Heap) 0 (some (d.s, 0)) σ fun v σ => some (v, σ)
  rw [Option.bind_some] at hr
  dsimp only at hr
  rw [h.c2 trivial, Option.bind_some] at hr
  rcases Bool.eq_false_or_eq_true d.armed with ha | ha
  rotate_left
  · rw [show changeD d = (0, d) by simp [changeD, ha], set_self h.hd]
    rw [ha, cond_false, Option.bind_some] at hr
    dsimp only at hr
    rw [h.c2 trivial, Option.bind_some, ha, cond_false] at hr
    exact call_ok ok known0_ok hr
  · obtain ⟨hl1, hl2⟩ := hl ha
    rw [ha, cond_true, Option.bind_some] at hr
    dsimp only at hr
    rw [h.c3 trivial, Option.bind_some] at hr
    by_cases hz : d.left = 0
    · rw [show changeD d = (8, { d with down := true }) by simp [changeD, ha, hz]]
      rw [hz, show ((0 : Int) == 0) = true from rfl, cond_true, Option.bind_some] at hr
      dsimp only at hr
      rw [store_head h (0 + 4) _ (by omega), Option.bind_some] at hr
      exact call_ok ok known0_ok hr
    · rw [show changeD d = (0, { d with left := d.left - 1 }) by simp [changeD, ha, hz]]
      rw [show (d.left == 0) = false from by simpa using hz, cond_false, Option.bind_some] at hr
      dsimp only at hr
      rw [h.c2 trivial, Option.bind_some, ha, cond_true, Option.bind_some] at hr
      dsimp only at hr
      rw [h.c3 trivial, Option.bind_some, Option.bind_some] at hr
      dsimp only at hr
      rw [wrap_i64_of (by omega) (by omega), store_head h (0 + 3) _ (by omega), Option.bind_some] at hr
      exact call_ok ok known0_ok hr
def Sto.fuse (t : Sto) (n : Int) : Sto := { t with armed := decide (n ≥ 0), left := n }
noncomputable def w_file_Store_Fuse (s : Pt) (n : Int) (σ : Heap) : Option (Unit × Heap) := stRel 22 [.ptr s, .int .i64 n] tVoid.av s (fun t => some ((), t.fuse n)) σ
theorem ok_file_Store_Fuse : Ok_file_Store_Fuse w_file_Store_Fuse := fun _ _ _ _ _ h => stRel_ok h
theorem w_file_Store_Fuse_ex {σ : Heap} {d : SD} (h : St σ .rw d) (n : Int) :
    ∃ σ' d', w_file_Store_Fuse (some (d.s, 0)) n σ = some ((), σ') ∧ St σ' .rw d' ∧ Fr σ d σ' d' ∧ d'.sto = d.sto.fuse n := by
  refine stRel_ex (r := ((), d.sto.fuse n)) h rfl ?_
  have hr := file_Store_Fuse_eq (R := AVal × Heap) 0 (some (d.s, 0)) n σ fun v σ => some (v, σ)
  rw [Option.bind_some] at hr
  dsimp only at hr
  rw [store_head h (0 + 2) _ (by omega), Option.bind_some, Option.bind_some] at hr
  dsimp only at hr
  obtain ⟨k1, k2⟩ := h.setHead (decide (n ≥ 0)) d.left d.down
  have e0 : σ.set d.s (.row (d.head.set (0 + 2) (.bool (decide (n ≥ 0)))) .rw) = σ.set d.s (.row ({ d with armed := decide (n ≥ 0), left := d.left, down := d.down } : SD).head .rw) := rfl
  rw [e0] at hr
  generalize σ.set d.s (.row ({ d with armed := decide (n ≥ 0), left := d.left, down := d.down } : SD).head .rw) = σ1 at k1 k2 hr
  have e1 := store_head k1 (0 + 3) (.int .i64 n) (by omega)
  obtain ⟨k3, k4⟩ := k1.setHead (decide (n ≥ 0)) n d.down
  dsimp only at e1
  rw [e1, Option.bind_some] at hr
  exact ⟨_, _, call_ok ok known0_ok hr, k3, k2.trans k4, rfl⟩
end Go.Abs.TC
namespace Go.Abs.TC
open Go Go.Abs Go.Proofs

/-! ### New -/
def newD (q : Int) (n : Nat) : SD := ⟨n + 1, n, [], q.toNat, false, 0, false⟩
def sto0 (q : Int) : Sto := ⟨[], q.toNat, false, 0, false⟩
noncomputable def w_file_New (q : Int) (σ : Heap) : Option (Pt × Heap) := some (some (σ.length + 1, 0), σ ++ [.map [] .rw] ++ [.row (newD q σ.length).head .rw])
theorem ok_file_New : Ok_file_New w_file_New := fun q σ v σ' h => by
  injection h with h
  injection h with h1 h2
  subst h1; subst h2
  refine call_ok ok known0_ok (L := 0) (n := 2) ((file_New_eq 0 q σ _).trans ?_)
  simp only [allocM, alloc, List.length_append, List.length_singleton, newD, SD.head, tPtr]
  rw [show (if 0 > q then 0 else q) = (q.toNat : Int) by split <;> omega]
theorem w_file_New_ex (q : Int) (hq : q ≤ 9223372036854775807) (σ : Heap) : ∃ σ' d, w_file_New q σ = some (some (d.s, 0), σ') ∧ St σ' .rw d ∧ σ <+: σ' ∧ (∀ b ∈ d.foot, σ.length ≤ b) ∧ d.sto = sto0 q := by
  refine ⟨_, newD q σ.length, rfl, ⟨?_, ?_, fun f hf => (by cases hf), ⟨by simp [newD], fun f hf => (by cases hf), fun f hf => (by cases hf), List.Pairwise.nil⟩, List.nodup_nil, by simp [newD, usedF], by simp [newD, usedF], by simp only [newD]; omega, fun f hf => (by cases hf)⟩, ?_, fun b hb => ?_, rfl⟩
  · have := get_push (σ ++ [.map [] .rw]) (.row (newD q σ.length).head .rw)
    rw [List.length_append, List.length_singleton] at this
    exact this
  · show ((σ ++ [Blk.map [] .rw]) ++ [_])[σ.length]? = _
    rw [List.getElem?_append_left (by simp)]
    exact get_push ..
  · exact (pre_push ..).trans (pre_push ..)
  · simp [SD.foot, newD] at hb
    omega

/-! ### slices.Clone, Read -/
instance : El.Flat eU8 := ⟨fun _ => rfl⟩
noncomputable def w_slices_Clone (s : Sl) (σ : Heap) : Option (Sl × Heap) := wOf (fun xs => s.Is eU8 σ xs ∧ xs.length ≤ 1000000) fun xs => fresh eU8 σ s.b.isNone xs
theorem w_slices_Clone_eq {s : Sl} {σ : Heap} {xs : List UInt8} (h : s.Is eU8 σ xs) (hl : xs.length ≤ 1000000) : w_slices_Clone s σ = some (fresh eU8 σ s.b.isNone xs) :=
  wOf_eq ⟨h, hl⟩ fun y hy => by rw [hy.1.uniq (by decide) h]
theorem ok_slices_Clone : Ok_slices_Clone w_slices_Clone := fun s σ v σ' h => by
  obtain ⟨xs, ⟨hs, hl⟩, e⟩ := wOf_some h
  obtain ⟨rfl, rfl⟩ : v = (fresh eU8 σ s.b.isNone xs).1 ∧ σ' = (fresh eU8 σ s.b.isNone xs).2 := by rw [e]; exact ⟨rfl, rfl⟩
  cases hb : s.b with
  | none =>
    refine call_ok ok known0_ok (L := 0) (n := 2) ((slices_Clone_eq 0 s σ _).trans ?_)
    rw [hb]
    rfl
  | some b =>
    have hp : s.Is eU8 (σ ++ [.row [] .rw]) xs := hs.pre (pre_push ..)
    obtain ⟨q, σ1, ha, ho, hk, hq⟩ := append_own (s := ⟨some σ.length, 0, 0⟩) (E := eU8) (σ := σ ++ [.row [] .rw]) (xs := []) (ys := xs) (.row σ.length rfl rfl rfl (get_push ..)) (bytes := 1) rfl rfl
      (by simp; omega) (by simp; omega)
    have hq0 : Option.isNone (some b) = q.1.isNone := by
      cases hq1 : q.1 with
      | some c => rfl
      | none =>
        cases xs with
        | nil =>
          simp [Heap.append] at ha
          rw [← ha.1] at hq1
          cases hq1
        | cons x xs =>
          cases ho with
          | nil _ _ _ hx => simp at hx
          | row b hb _ _ _ => rw [hq1] at hb; cases hb
    rw [← hb] at hq0 ⊢
    refine call_fresh (q := ⟨q.1, q.2.1, q.2.2⟩) (call_ok ok known0_ok (L := 0) (n := 2) (σ' := σ1) (v := .slice q.1 q.2.1 q.2.2 1) ((slices_Clone_eq 0 s σ _).trans ?_)) ho (fun b hb => ?_) (fun c hc => ?_) hq0
    · rw [hb]
      simp only [Option.isNone_some, cond_false, alloc]
      have hrd : (σ ++ [Blk.row [] .rw]).read s.b s.o s.n 1 = some (eU8.all xs) := hp.read
      have ha' : (σ ++ [Blk.row [] .rw]).append (some σ.length) 0 0 1 1 (eU8.all xs) xs.length = some (q, σ1) := ha
      rw [← hb, hrd, Option.bind_some, hs.n, ha']
      rfl
    · rw [hk.at_ b (by simp; omega) (by simp; omega)]
      exact List.getElem?_append_left hb
    · rcases hq c hc with h1 | h1
      · injection h1 with h1; omega
      · simp at h1; omega
def readV (d : SD) (n : ByteArray) : Int × Bool × List UInt8 := bif d.down then (8, true, []) else match d.get n with
  | none => (4, true, [])
  | some f => (0, f.sl.b.isNone, f.data)
noncomputable def w_file_Store_Read (s : Pt) (n : ByteArray) (σ : Heap) : Option ((Sl × Int) × Heap) :=
  wOf (fun d : SD => s = some (d.s, 0) ∧ ∃ m, Mode.rd m ∧ St σ m d) fun d => (((fresh eU8 σ (readV d n).2.1 (readV d n).2.2).1, (readV d n).1), (fresh eU8 σ (readV d n).2.1 (readV d n).2.2).2)
theorem w_file_Store_Read_eq {σ : Heap} {m : Mode} {d : SD} (hm : Mode.rd m) (h : St σ m d) (n : ByteArray) :
    w_file_Store_Read (some (d.s, 0)) n σ = some (((fresh eU8 σ (readV d n).2.1 (readV d n).2.2).1, (readV d n).1), (fresh eU8 σ (readV d n).2.1 (readV d n).2.2).2) :=
  wOf_eq (P := fun e : SD => some (d.s, 0) = some (e.s, 0) ∧ ∃ m, Mode.rd m ∧ St σ m e) (f := fun d => (((fresh eU8 σ (readV d n).2.1 (readV d n).2.2).1, (readV d n).1), (fresh eU8 σ (readV d n).2.1 (readV d n).2.2).2)) ⟨rfl, m, hm, h⟩ fun e ⟨h1, m', _, h2⟩ => by
    injection h1 with h1
    injection h1 with h1 _
    rw [h.uniq h2 h1]
noncomputable def c_file_Store_Read : C_file_Store_Read := { file_Store_find := w_file_Store_find, slices_Clone := w_slices_Clone }
theorem ok_file_Store_Read : Ok_file_Store_Read w_file_Store_Read := fun s n σ v σ' h => by
  obtain ⟨d, ⟨rfl, m, hm, hd⟩, e⟩ := wOf_some h
  injection e with e1 e2
  subst e1; subst e2
  have p1 : c_file_Store_Read.file_Store_find = w_file_Store_find := rfl
  have p2 : c_file_Store_Read.slices_Clone = w_slices_Clone := rfl
  refine call_ok ok (K_file_Store_Read c_file_Store_Read ok_file_Store_find ok_slices_Clone) (L := 0) (n := 2) ((file_Store_Read_eq c_file_Store_Read 0 _ _ _ _).trans ?_)
  rw [p1, w_file_Store_find, rdRel_eq hm hd, Option.bind_some]
  dsimp only
  unfold findV readV
  cases d.down with
  | true => rfl
  | false =>
    cases hg : d.get n with
    | none => rfl
    | some f =>
      have hfm := (getK_mem hg).1
      have g := hd.file f hfm
      have hl := usedF_mem hfm
      have := hd.sz
      have hi := g.is hm (by omega)
      simp only [cond_false, bne_self_eq_false, Option.bind_some]
      rw [g.c0 hm, Option.bind_some, p2]
      rw [w_slices_Clone_eq hi (by omega), Option.bind_some]
      rfl

/-! ### What is put into the map -/
theorem mput_eq {σ : Heap} {bm : Nat} {fs : List FD} (hm : σ[bm]? = some (.map (fs.map ent) .rw)) (x : FD) : σ.mput (some bm) (.str x.name) (.ptr (some (x.p, 0))) = some (σ.set bm (.map ((putK FD.name x fs).map ent) .rw)) := by
  unfold Heap.mput
  simp only [Option.bind_some, hm]
  rcases findC_ent x.name fs 0 with ⟨h1, h2⟩ | ⟨j, f, h1, h2, _, _, h5⟩
  · rw [h2, putK_none h1]
    simp [ent]
  · rw [h2, ← h5 x rfl]
    simp [ent]
theorem mdel_eq {σ : Heap} {bm : Nat} {fs : List FD} {n : ByteArray} {f : FD} (hm : σ[bm]? = some (.map (fs.map ent) .rw)) (hf : getK FD.name n fs = some f) : σ.mdel (some bm) (.str n) = some (σ.set bm (.map ((delK FD.name n fs).map ent) .rw)) := by
  unfold Heap.mdel
  simp only [hm]
  rcases findC_ent n fs 0 with ⟨h1, h2⟩ | ⟨j, f, h1, h2, _, h4, _⟩
  · rw [hf] at h1; cases h1
  · rw [h2, ← h4]
    simp
theorem store_file {σ : Heap} {f : FD} (h : σ[f.p]? = some (.row f.row .rw)) (o : Nat) (v : AVal) (ho : o < 2) : σ.store f.p o [v] = some (σ.set f.p (.row (f.row.set o v) .rw)) := by
  unfold Heap.store
  rw [h]
  simp only [List.length_singleton]
  rw [if_pos (by simp [FD.row]; omega)]
  rfl

/-! ### Sync -/
def Sto.findE (t : Sto) (n : ByteArray) : Int := if t.down then 8 else match t.get n with | none => 4 | some _ => 0
/-- What is done to a file that is there, if there may be a change. -/
def Sto.onFile (t : Sto) (n : ByteArray) (h : Fil → Sto → Sto) : Int × Sto :=
  if t.down then (8, t) else match t.get n with
    | none => (4, t)
    | some f => if t.change.1 = 0 then (0, h f t.change.2) else t.change
def Sto.put (t : Sto) (f : Fil) : Sto := { t with fs := putK Fil.name f t.fs }
def Sto.sync (t : Sto) (n : ByteArray) : Int × Sto := t.onFile n fun f t => t.put { f with sure := f.data.length }
theorem change_code (t : Sto) : t.change.1 = 0 ∨ t.change.1 = 8 := by
  unfold Sto.change
  split
  · exact .inr rfl
  · split <;> exact .inl rfl
theorem change_get (t : Sto) : t.change.2.fs = t.fs ∧ t.change.2.quota = t.quota := by
  unfold Sto.change
  split
  · exact ⟨rfl, rfl⟩
  · split <;> exact ⟨rfl, rfl⟩
/-- The head of a function that changes a file that is there. -/
theorem onFile_down {t : Sto} {n : ByteArray} {h : Fil → Sto → Sto} (hd : t.down = true) : t.onFile n h = (8, t) := by simp [Sto.onFile, hd]
theorem onFile_none {t : Sto} {n : ByteArray} {h : Fil → Sto → Sto} (hd : t.down = false) (hg : t.get n = none) : t.onFile n h = (4, t) := by simp [Sto.onFile, hd, hg]
theorem onFile_no {t : Sto} {n : ByteArray} {h : Fil → Sto → Sto} {f : Fil} (hd : t.down = false) (hg : t.get n = some f) (hc : t.change.1 ≠ 0) : t.onFile n h = t.change := by simp [Sto.onFile, hd, hg, hc]
theorem onFile_yes {t : Sto} {n : ByteArray} {h : Fil → Sto → Sto} {f : Fil} (hd : t.down = false) (hg : t.get n = some f) (hc : t.change.1 = 0) : t.onFile n h = (0, h f t.change.2) := by simp [Sto.onFile, hd, hg, hc]
/-- The four ways of such a function. -/
theorem onFile_cases {σ : Heap} {d : SD} (h : St σ .rw d) (hl : LeftOk d) (n : ByteArray) (op : Fil → Sto → Sto) :
    (findV d n = (none, 8) ∧ d.sto.onFile n op = (8, d.sto)) ∨
    (findV d n = (none, 4) ∧ d.sto.onFile n op = (4, d.sto)) ∨
    ∃ f, d.get n = some f ∧ findV d n = (some (f.p, 0), 0) ∧ ∃ σ' d', w_file_Store_change (some (d.s, 0)) σ = some ((changeD d).1, σ') ∧ St σ' .rw d' ∧ Fr σ d σ' d' ∧ d'.s = d.s ∧ d'.bm = d.bm ∧ d'.fs = d.fs ∧ d'.quota = d.quota ∧
      (((changeD d).1 = 8 ∧ d.sto.onFile n op = (8, d'.sto)) ∨ ((changeD d).1 = 0 ∧ d.sto.onFile n op = (0, op f.fil d'.sto))) := by
  unfold findV
  rcases Bool.eq_false_or_eq_true d.down with hd | hd
  · exact .inl ⟨by rw [hd]; rfl, onFile_down hd⟩
  · rw [hd, cond_false]
    cases hg : d.get n with
    | none => exact .inr (.inl ⟨rfl, onFile_none hd (by rw [SD.get_sto, hg]; rfl)⟩)
    | some f =>
      have hg' : d.sto.get n = some f.fil := by rw [SD.get_sto, hg]; rfl
      obtain ⟨c1, c2, c3, c4, c5, c6⟩ := changeD_eq d
      obtain ⟨k1, k2⟩ := change_st h
      refine .inr (.inr ⟨f, rfl, rfl, _, _, w_file_Store_change_eq h hl, k1, k2, c3, c4, c5, c6, ?_⟩)
      rw [c1, c2]
      rcases change_code d.sto with hc | hc
      · exact .inr ⟨hc, onFile_yes hd hg' hc⟩
      · refine .inl ⟨hc, ?_⟩
        rw [onFile_no hd hg' (by rw [hc]; decide)]
        rw [← hc]

noncomputable def c_file_Store_Sync : C_file_Store_Sync := { file_Store_find := w_file_Store_find, file_Store_change := w_file_Store_change }
noncomputable def w_file_Store_Sync (s : Pt) (n : ByteArray) (σ : Heap) : Option (Int × Heap) := stRel 19 [.ptr s, .str n] (tInt .i64).av s (fun t => some (t.sync n)) σ
theorem ok_file_Store_Sync : Ok_file_Store_Sync w_file_Store_Sync := fun _ _ _ _ _ h => stRel_ok h
theorem w_file_Store_Sync_ex {σ : Heap} {d : SD} (h : St σ .rw d) (hl : LeftOk d) (n : ByteArray) :
    ∃ σ' d', w_file_Store_Sync (some (d.s, 0)) n σ = some ((d.sto.sync n).1, σ') ∧ St σ' .rw d' ∧ Fr σ d σ' d' ∧ d'.sto = (d.sto.sync n).2 := by
  refine stRel_ex h rfl ?_
  have p1 : c_file_Store_Sync.file_Store_find = w_file_Store_find := rfl
  have p2 : c_file_Store_Sync.file_Store_change = w_file_Store_change := rfl
  have hr := file_Store_Sync_eq (R := AVal × Heap) c_file_Store_Sync 0 (some (d.s, 0)) n σ fun v σ => some (v, σ)
  rw [p1, w_file_Store_find, rdRel_eq (m := .rw) trivial h, Option.bind_some, p2] at hr
  dsimp only at hr
  have hK := K_file_Store_Sync c_file_Store_Sync ok_file_Store_change ok_file_Store_find
  unfold Sto.sync
  rcases onFile_cases h hl n (fun f t => t.put { f with sure := f.data.length }) with ⟨e1, e2⟩ | ⟨e1, e2⟩ | ⟨f, hg, e1, σ1, d1, k1, k2, k3, k4, k5, k6, k7, hc⟩
  · rw [e1, show ((8 : Int) == 0) = false from rfl, cond_false, cond_false] at hr
    rw [e2]
    exact ⟨σ, d, call_ok ok hK hr, h, .refl, rfl⟩
  · rw [e1, show ((4 : Int) == 0) = false from rfl, cond_false, cond_false] at hr
    rw [e2]
    exact ⟨σ, d, call_ok ok hK hr, h, .refl, rfl⟩
  · rw [e1, show ((0 : Int) == 0) = true from rfl, cond_true, k1, Option.bind_some] at hr
    dsimp only at hr
    rcases hc with ⟨hc, e2⟩ | ⟨hc, e2⟩
    · rw [hc, show ((8 : Int) == 0) = false from rfl, cond_false] at hr
      rw [e2]
      exact ⟨σ1, d1, call_ok ok hK hr, k2, k3, rfl⟩
    · have hg1 : d1.get n = some f := by unfold SD.get; rw [k6]; exact hg
      have hfm := (getK_mem (k := FD.name) hg1).1
      have g := k2.file f hfm
      rw [hc, show ((0 : Int) == 0) = true from rfl, cond_true, Option.bind_some] at hr
      dsimp only at hr
      rw [g.c0 trivial, Option.bind_some, Option.bind_some] at hr
      dsimp only at hr
      rw [g.n, store_file g.row (0 + 1) _ (by omega), Option.bind_some] at hr
      rw [e2]
      have hne : ∀ b ∈ f.sl.b.toList, b ≠ f.p := fun b hb e => by
        have := k2.nd.each f hfm
        simp only [FD.blocks, List.nodup_cons] at this
        exact this.1 (e ▸ hb)
      obtain ⟨q1, q2⟩ := k2.putFile (f' := { f with sure := f.data.length }) hg1 (getK_mem (k := FD.name) hg1).2 rfl (σ' := σ1.set f.p (.row (f.row.set (0 + 1) (.int .i64 (f.data.length : Int))) .rw))
        ⟨by simp [g.lt, FD.row], g.o, g.n, Nat.le_refl _, g.data.imp id fun ⟨b, cs, h1, h2, h3⟩ => ⟨b, cs, h1, by rw [List.getElem?_set_ne (Ne.symm (hne b (by simp [h1])))]; exact h2, h3⟩⟩
        (by simp) (fun b _ hb => List.getElem?_set_ne fun e => hb (by simp [FD.blocks, e])) (fun b hb => .inl hb) (k2.nd.each f hfm) (by have := k2.used; simp only; omega) (by have := k2.sz; simp only; omega)
      refine ⟨_, _, call_ok ok hK hr, q1, k3.trans q2, ?_⟩
      simp only [SD.sto, Sto.put, SD.sto]
      rw [← putK_map (k := FD.name) (k' := Fil.name) (g := FD.fil) (fun _ => rfl)]
      rfl
end Go.Abs.TC
namespace Go.Abs.TC
open Go Go.Abs Go.Proofs

def Sto.delete (t : Sto) (n : ByteArray) : Int × Sto := t.onFile n fun _ t => { t with fs := delK Fil.name n t.fs }
def Sto.rename (t : Sto) (n to : ByteArray) : Int × Sto := if t.down = false ∧ nameOk to = false then (3, t) else t.onFile n fun f t => ({ t with fs := delK Fil.name n t.fs } : Sto).put { f with name := to }
def cutN (n : Int) (l : Nat) : Nat := min n.toNat l
def Sto.cut (t : Sto) (n : ByteArray) (k : Int) : Int × Sto := t.onFile n fun f t => t.put { f with data := f.data.take (cutN k f.data.length), sure := min f.sure (cutN k f.data.length) }

theorem del_file {σ : Heap} {d : SD} {n : ByteArray} (h : St σ .rw d) : ∀ g ∈ delK FD.name n d.fs, (FileIn σ .rw g ∧ d.s ∉ g.blocks ∧ d.bm ∉ g.blocks ∧ g.blocks.Nodup ∧ (g.name.size ≠ 0 ∧ g.name.size ≤ 12)) ∧ g ∈ d.fs ∧ g.name ≠ n := fun g hg => by
  obtain ⟨h1, h2⟩ := mem_del_ne h.names hg
  exact ⟨⟨h.file g h1, (h.nd.out g h1).1, (h.nd.out g h1).2, h.nd.each g h1, h.nok g h1⟩, h1, h2⟩
theorem del_st {σ : Heap} {d : SD} {n : ByteArray} {f : FD} (h : St σ .rw d) (hf : d.get n = some f) :
    St (σ.set d.bm (.map ((delK FD.name n d.fs).map ent) .rw)) .rw { d with fs := delK FD.name n d.fs } ∧ Fr σ d (σ.set d.bm (.map ((delK FD.name n d.fs).map ent) .rw)) { d with fs := delK FD.name n d.fs } := by
  obtain ⟨u1, u2⟩ := usedF_del hf
  have hd := del_file (n := n) h
  have := h.used
  have := h.sz
  exact h.setMap List.prefix_rfl (fun g hg => (hd g hg).1) (h.nd.apart.sublist (delK_sub _)) (names_del h.names) (by omega) (by omega) fun g hg b hb => .inl (SD.mem_foot.2 (.inr (.inr ⟨g, (hd g hg).2.1, hb⟩)))

noncomputable def c_file_Store_Delete : C_file_Store_Delete := { file_Store_find := w_file_Store_find, file_Store_change := w_file_Store_change }
noncomputable def w_file_Store_Delete (s : Pt) (n : ByteArray) (σ : Heap) : Option (Int × Heap) := stRel 38 [.ptr s, .str n] (tInt .i64).av s (fun t => some (t.delete n)) σ
theorem ok_file_Store_Delete : Ok_file_Store_Delete w_file_Store_Delete := fun _ _ _ _ _ h => stRel_ok h
theorem w_file_Store_Delete_ex {σ : Heap} {d : SD} (h : St σ .rw d) (hl : LeftOk d) (n : ByteArray) :
    ∃ σ' d', w_file_Store_Delete (some (d.s, 0)) n σ = some ((d.sto.delete n).1, σ') ∧ St σ' .rw d' ∧ Fr σ d σ' d' ∧ d'.sto = (d.sto.delete n).2 := by
  refine stRel_ex h rfl ?_
  have p1 : c_file_Store_Delete.file_Store_find = w_file_Store_find := rfl
  have p2 : c_file_Store_Delete.file_Store_change = w_file_Store_change := rfl
  have hr := file_Store_Delete_eq (R := AVal × Heap) c_file_Store_Delete 0 (some (d.s, 0)) n σ fun v σ => some (v, σ)
  rw [p1, w_file_Store_find, rdRel_eq (m := .rw) trivial h, Option.bind_some, p2] at hr
  dsimp only at hr
  have hK := K_file_Store_Delete c_file_Store_Delete ok_file_Store_change ok_file_Store_find
  unfold Sto.delete
  rcases onFile_cases h hl n (fun _ t => { t with fs := delK Fil.name n t.fs }) with ⟨e1, e2⟩ | ⟨e1, e2⟩ | ⟨f, hg, e1, σ1, d1, k1, k2, k3, k4, k5, k6, k7, hc⟩
  · rw [e1, show ((8 : Int) == 0) = false from rfl, cond_false, cond_false] at hr
    rw [e2]
    exact ⟨σ, d, call_ok ok hK hr, h, .refl, rfl⟩
  · rw [e1, show ((4 : Int) == 0) = false from rfl, cond_false, cond_false] at hr
    rw [e2]
    exact ⟨σ, d, call_ok ok hK hr, h, .refl, rfl⟩
  · rw [e1, show ((0 : Int) == 0) = true from rfl, cond_true, k1, Option.bind_some] at hr
    dsimp only at hr
    rcases hc with ⟨hc, e2⟩ | ⟨hc, e2⟩
    · rw [hc, show ((8 : Int) == 0) = false from rfl, cond_false] at hr
      rw [e2]
      exact ⟨σ1, d1, call_ok ok hK hr, k2, k3, rfl⟩
    · have hg1 : d1.get n = some f := by unfold SD.get; rw [k6]; exact hg
      rw [hc, show ((0 : Int) == 0) = true from rfl, cond_true, Option.bind_some] at hr
      dsimp only at hr
      rw [← k4, k2.c0 trivial, Option.bind_some, mdel_eq k2.mp hg1, Option.bind_some] at hr
      rw [e2]
      obtain ⟨q1, q2⟩ := del_st k2 hg1
      rw [k4] at hr
      refine ⟨_, _, call_ok ok hK hr, q1, k3.trans q2, ?_⟩
      simp only [SD.sto]
      rw [← delK_map (k := FD.name) (k' := Fil.name) (g := FD.fil) (fun _ => rfl)]

/-! ### Rename -/
noncomputable def c_file_Store_Rename : C_file_Store_Rename := { file_Store_find := w_file_Store_find, file_Store_change := w_file_Store_change, file_named := w_file_named }
noncomputable def w_file_Store_Rename (s : Pt) (n to : ByteArray) (σ : Heap) : Option (Int × Heap) := stRel 37 [.ptr s, .str n, .str to] (tInt .i64).av s (fun t => some (t.rename n to)) σ
theorem ok_file_Store_Rename : Ok_file_Store_Rename w_file_Store_Rename := fun _ _ _ _ _ _ h => stRel_ok h
theorem nameOk_iff {n : ByteArray} : nameOk n = true ↔ n.size ≠ 0 ∧ n.size ≤ 12 := by simp [nameOk]
/-- A file has another name now. -/
theorem rename_st {σ : Heap} {d : SD} {n to : ByteArray} {f : FD} (h : St σ .rw d) (hf : d.get n = some f) (ht : nameOk to = true) :
    ∃ σ1 σ2, σ.mdel (some d.bm) (.str n) = some σ1 ∧ map? (σ1.cell? d.s 0) = some (some d.bm) ∧ σ1.mput (some d.bm) (.str to) (.ptr (some (f.p, 0))) = some σ2 ∧
      St σ2 .rw { d with fs := putK FD.name { f with name := to } (delK FD.name n d.fs) } ∧ Fr σ d σ2 { d with fs := putK FD.name { f with name := to } (delK FD.name n d.fs) } := by
  obtain ⟨q1, q2⟩ := del_st h hf
  obtain ⟨hfm, hfn⟩ := getK_mem (k := FD.name) hf
  obtain ⟨u1, u2⟩ := usedF_del hf
  have hd := del_file (n := n) h
  have hb := h.bm_lt
  have hmp := q1.mp
  refine ⟨_, _, mdel_eq h.mp hf, q1.c0 trivial, mput_eq (x := { f with name := to }) hmp, ?_⟩
  rw [List.set_set]
  have hu := h.used
  have hs := h.sz
  have hus : usedF (putK FD.name { f with name := to } (delK FD.name n d.fs)) ≤ usedF d.fs ∧ (putK FD.name { f with name := to } (delK FD.name n d.fs)).length ≤ d.fs.length := by
    cases hg : getK FD.name to (delK FD.name n d.fs) with
    | none =>
      obtain ⟨v1, v2⟩ := usedF_put_none (x := { f with name := to }) hg
      simp only at v1
      omega
    | some g =>
      obtain ⟨v1, v2⟩ := usedF_put (x := { f with name := to }) hg
      simp only at v1
      omega
  have hmem : ∀ g ∈ putK FD.name { f with name := to } (delK FD.name n d.fs), g = { f with name := to } ∨ (g ∈ delK FD.name n d.fs) := fun g hg => mem_putK hg
  refine h.setMap List.prefix_rfl (fun g hg => ?_) (pair_put (names_del h.names) (h.nd.apart.sublist (delK_sub _)) fun y hy _ => ?_) (names_put (names_del h.names)) (Nat.le_trans hus.1 hu) (Nat.le_trans (Nat.add_le_add hus.1 hus.2) hs) (fun g hg b hb => ?_)
  · rcases hmem g hg with rfl | hg
    · have g0 := h.file f hfm
      exact ⟨⟨g0.row, g0.o, g0.n, g0.sure, g0.data⟩, (h.nd.out f hfm).1, (h.nd.out f hfm).2, h.nd.each f hfm, nameOk_iff.1 ht⟩
    · exact (hd g hg).1
  · have := apart_get h.nd h.names (hd y hy).2.1 hfm (by rw [hfn]; exact (hd y hy).2.2)
    exact ⟨⟨this, fun b hb hb' => this b hb' hb⟩, ⟨fun b hb hb' => this b hb' hb, this⟩⟩
  · rcases hmem g hg with rfl | hg
    · exact .inl (SD.mem_foot.2 (.inr (.inr ⟨f, hfm, hb⟩)))
    · exact .inl (SD.mem_foot.2 (.inr (.inr ⟨g, (hd g hg).2.1, hb⟩)))
theorem w_file_Store_Rename_ex {σ : Heap} {d : SD} (h : St σ .rw d) (hl : LeftOk d) (n to : ByteArray) :
    ∃ σ' d', w_file_Store_Rename (some (d.s, 0)) n to σ = some ((d.sto.rename n to).1, σ') ∧ St σ' .rw d' ∧ Fr σ d σ' d' ∧ d'.sto = (d.sto.rename n to).2 := by
  refine stRel_ex h rfl ?_
  have p1 : c_file_Store_Rename.file_Store_find = w_file_Store_find := rfl
  have p2 : c_file_Store_Rename.file_Store_change = w_file_Store_change := rfl
  have p3 : c_file_Store_Rename.file_named = w_file_named := rfl
  have hr := file_Store_Rename_eq (R := AVal × Heap) c_file_Store_Rename 0 (some (d.s, 0)) n to σ fun v σ => some (v, σ)
  rw [Option.bind_some] at hr
  dsimp only at hr
  rw [h.c4 trivial, Option.bind_some, p3, w_file_named, Option.bind_some, p1, w_file_Store_find, rdRel_eq (m := .rw) trivial h, Option.bind_some, p2] at hr
  dsimp only at hr
  have hK := K_file_Store_Rename c_file_Store_Rename ok_file_named ok_file_Store_change ok_file_Store_find
  unfold Sto.rename
  by_cases hno : d.sto.down = false ∧ nameOk to = false
  · rw [if_pos hno]
    have h1 : d.down = false := hno.1
    rw [h1, hno.2, Bool.not_false, cond_true, cond_true] at hr
    exact ⟨σ, d, call_ok ok hK hr, h, .refl, rfl⟩
  rw [if_neg hno]
  rcases onFile_cases h hl n (fun f t => ({ t with fs := delK Fil.name n t.fs } : Sto).put { f with name := to }) with ⟨e1, e2⟩ | ⟨e1, e2⟩ | ⟨f, hg, e1, σ1, d1, k1, k2, k3, k4, k5, k6, k7, hc⟩
  · have hd : d.down = true := by
      unfold findV at e1
      rcases Bool.eq_false_or_eq_true d.down with hd | hd
      · exact hd
      · rw [hd, cond_false] at e1; split at e1 <;> simp at e1
    rw [hd, Bool.not_true, cond_false, e1, show ((8 : Int) == 0) = false from rfl, cond_false, cond_false] at hr
    rw [e2]
    exact ⟨σ, d, call_ok ok hK hr, h, .refl, rfl⟩
  all_goals
    have hd : d.down = false := by
      unfold findV at e1
      rcases Bool.eq_false_or_eq_true d.down with hd | hd
      · rw [hd, cond_true] at e1; simp at e1
      · exact hd
    have ht : nameOk to = true := by
      rcases Bool.eq_false_or_eq_true (nameOk to) with ht | ht
      · exact ht
      · exact absurd ⟨hd, ht⟩ hno
    rw [hd, Bool.not_false, cond_true, ht, Bool.not_true, cond_false, e1] at hr
    dsimp only at hr
  · rw [show ((4 : Int) == 0) = false from rfl, cond_false, cond_false] at hr
    rw [e2]
    exact ⟨σ, d, call_ok ok hK hr, h, .refl, rfl⟩
  · rw [show ((0 : Int) == 0) = true from rfl, cond_true, k1, Option.bind_some] at hr
    dsimp only at hr
    rcases hc with ⟨hc, e2⟩ | ⟨hc, e2⟩
    · rw [hc, show ((8 : Int) == 0) = false from rfl, cond_false] at hr
      rw [e2]
      exact ⟨σ1, d1, call_ok ok hK hr, k2, k3, rfl⟩
    · have hg1 : d1.get n = some f := by unfold SD.get; rw [k6]; exact hg
      rw [hc, show ((0 : Int) == 0) = true from rfl, cond_true, Option.bind_some] at hr
      dsimp only at hr
      obtain ⟨σ2, σ3, m1, m2, m3, m4, m5⟩ := rename_st (to := to) k2 hg1 ht
      rw [← k4, k2.c0 trivial, Option.bind_some, m1, Option.bind_some, Option.bind_some] at hr
      dsimp only at hr
      rw [m2, Option.bind_some, m3, Option.bind_some, k4] at hr
      rw [e2]
      refine ⟨_, _, call_ok ok hK hr, m4, k3.trans m5, ?_⟩
      simp only [SD.sto, Sto.put]
      rw [← putK_map (k := FD.name) (k' := Fil.name) (g := FD.fil) (fun _ => rfl), ← delK_map (k := FD.name) (k' := Fil.name) (g := FD.fil) (fun _ => rfl)]
      rfl
end Go.Abs.TC
namespace Go.Abs.TC
open Go Go.Abs Go.Proofs

theorem pieces {f : FD} (h : f.blocks.Nodup) : ∀ b, f.sl.b = some b → b ≠ f.p := fun b hb e => by
  simp only [FD.blocks, List.nodup_cons, hb, Option.toList_some, List.mem_singleton] at h
  exact h.1 e.symm
/-- A file's head turns: another length, another number that is sure. -/
theorem St.headFile {σ : Heap} {d : SD} {n : ByteArray} {f : FD} (h : St σ .rw d) (hf : d.get n = some f) {len su : Nat} (h1 : len ≤ f.data.length) (h2 : su ≤ len) :
    St (σ.set f.p (.row [.slice f.sl.b f.sl.o len 1, .int .i64 (su : Int)] .rw)) .rw { d with fs := putK FD.name { f with sl := ⟨f.sl.b, f.sl.o, len⟩, data := f.data.take len, sure := su } d.fs } ∧
    Fr σ d (σ.set f.p (.row [.slice f.sl.b f.sl.o len 1, .int .i64 (su : Int)] .rw)) { d with fs := putK FD.name { f with sl := ⟨f.sl.b, f.sl.o, len⟩, data := f.data.take len, sure := su } d.fs } := by
  obtain ⟨hfm, hfn⟩ := getK_mem (k := FD.name) hf
  have g := h.file f hfm
  have hp := pieces (h.nd.each f hfm)
  have hu := h.used
  have hs := h.sz
  have hl : (f.data.take len).length = len := by rw [List.length_take]; omega
  refine h.putFile hf hfn rfl ⟨by simp [g.lt, FD.row], g.o, hl.symm, by rw [hl]; exact h2, ?_⟩ (by simp) (fun b _ hb => List.getElem?_set_ne fun e => hb (by simp [FD.blocks, e])) (fun b hb => .inl hb) (h.nd.each f hfm) (by simp only; omega) (by simp only; omega)
  rcases g.data with ⟨k1, k2⟩ | ⟨b, cs, k1, k2, k3⟩
  · exact .inl ⟨k1, by simp [k2]⟩
  · refine .inr ⟨b, cs, k1, by rw [List.getElem?_set_ne (Ne.symm (hp b k1))]; exact k2, ?_⟩
    rw [hl]
    have := eU8.all_take f.data len
    rw [show len * eU8.z = len from Nat.mul_one _] at this
    rw [← this, ← k3, List.take_take, Nat.min_eq_left h1]

/-! ### Cut -/
noncomputable def c_file_Store_Cut : C_file_Store_Cut := { file_Store_find := w_file_Store_find, file_Store_change := w_file_Store_change }
noncomputable def w_file_Store_Cut (s : Pt) (n : ByteArray) (k : Int) (σ : Heap) : Option (Int × Heap) := stRel 39 [.ptr s, .str n, .int .i64 k] (tInt .i64).av s (fun t => some (t.cut n k)) σ
theorem ok_file_Store_Cut : Ok_file_Store_Cut w_file_Store_Cut := fun _ _ _ _ _ _ h => stRel_ok h
theorem w_file_Store_Cut_ex {σ : Heap} {d : SD} (h : St σ .rw d) (hl : LeftOk d) (n : ByteArray) (k : Int) :
    ∃ σ' d', w_file_Store_Cut (some (d.s, 0)) n k σ = some ((d.sto.cut n k).1, σ') ∧ St σ' .rw d' ∧ Fr σ d σ' d' ∧ d'.sto = (d.sto.cut n k).2 := by
  refine stRel_ex h rfl ?_
  have p1 : c_file_Store_Cut.file_Store_find = w_file_Store_find := rfl
  have p2 : c_file_Store_Cut.file_Store_change = w_file_Store_change := rfl
  have hr := file_Store_Cut_eq (R := AVal × Heap) c_file_Store_Cut 0 (some (d.s, 0)) n k σ fun v σ => some (v, σ)
  rw [p1, w_file_Store_find, rdRel_eq (m := .rw) trivial h, Option.bind_some, p2] at hr
  dsimp only at hr
  have hK := K_file_Store_Cut c_file_Store_Cut ok_file_Store_change ok_file_Store_find
  unfold Sto.cut
  rcases onFile_cases h hl n (fun f t => t.put { f with data := f.data.take (cutN k f.data.length), sure := min f.sure (cutN k f.data.length) }) with ⟨e1, e2⟩ | ⟨e1, e2⟩ | ⟨f, hg, e1, σ1, d1, k1, k2, k3, k4, k5, k6, k7, hc⟩
  · rw [e1, show ((8 : Int) == 0) = false from rfl, cond_false, cond_false] at hr
    rw [e2]
    exact ⟨σ, d, call_ok ok hK hr, h, .refl, rfl⟩
  · rw [e1, show ((4 : Int) == 0) = false from rfl, cond_false, cond_false] at hr
    rw [e2]
    exact ⟨σ, d, call_ok ok hK hr, h, .refl, rfl⟩
  · rw [e1, show ((0 : Int) == 0) = true from rfl, cond_true, k1, Option.bind_some] at hr
    dsimp only at hr
    rcases hc with ⟨hc, e2⟩ | ⟨hc, e2⟩
    · rw [hc, show ((8 : Int) == 0) = false from rfl, cond_false] at hr
      rw [e2]
      exact ⟨σ1, d1, call_ok ok hK hr, k2, k3, rfl⟩
    · have hg1 : d1.get n = some f := by unfold SD.get; rw [k6]; exact hg
      have hfm := (getK_mem (k := FD.name) hg1).1
      have g := k2.file f hfm
      rw [hc, show ((0 : Int) == 0) = true from rfl, cond_true, Option.bind_some] at hr
      dsimp only at hr
      rw [g.c0 trivial, Option.bind_some, Option.bind_some] at hr
      dsimp only at hr
      rw [g.c0 trivial, Option.bind_some] at hr
      dsimp only at hr
      have ecut : (if (f.sl.n : Int) < (if 0 > k then 0 else k) then (f.sl.n : Int) else (if 0 > k then 0 else k)) = (cutN k f.data.length : Int) := by
        rw [g.n]; unfold cutN; split <;> split <;> omega
      have hcl : cutN k f.data.length ≤ f.data.length := by unfold cutN; omega
      have ecut2 : (if (f.sl.n : Int) < (if 0 > k then 0 else k) then (f.sl.n : Int) else (if 0 > k then 0 else k)).toNat = cutN k f.data.length := by rw [ecut]; rfl
      rw [ecut, show decide ((0 : Int) ≤ (cutN k f.data.length : Int)) = true by simp, show decide ((cutN k f.data.length : Int) ≤ (f.sl.n : Int)) = true by rw [g.n]; simpa using hcl, Bool.and_true, cond_true, Option.bind_some] at hr
      dsimp only at hr
      rw [store_file (f := f) g.row 0 _ (by omega), Option.bind_some, Option.bind_some] at hr
      dsimp only at hr
      have hlt := g.lt
      have r1 : (σ1.set f.p (.row (f.row.set 0 (.slice f.sl.b f.sl.o (Int.toNat (cutN k f.data.length : Int)) 1)) .rw))[f.p]? = some (.row [.slice f.sl.b f.sl.o (cutN k f.data.length) 1, .int .i64 (f.sure : Int)] .rw) := by simp [hlt, FD.row]
      have c1 : int? (Heap.cell? (σ1.set f.p (.row (f.row.set 0 (.slice f.sl.b f.sl.o (Int.toNat (cutN k f.data.length : Int)) 1)) .rw)) f.p (0 + 1)) .i64 = some (f.sure : Int) := by
        unfold Heap.cell?; rw [row?_of r1 (by simp)]; rfl
      have c0 : slice? (Heap.cell? (σ1.set f.p (.row (f.row.set 0 (.slice f.sl.b f.sl.o (Int.toNat (cutN k f.data.length : Int)) 1)) .rw)) f.p 0) 1 = some (f.sl.b, f.sl.o, cutN k f.data.length) := by
        unfold Heap.cell?; rw [row?_of r1 (by simp)]
        simp [slice?]
      have s1 : Heap.store (σ1.set f.p (.row (f.row.set 0 (.slice f.sl.b f.sl.o (Int.toNat (cutN k f.data.length : Int)) 1)) .rw)) f.p (0 + 1) [.int .i64 (if (cutN k f.data.length : Int) < (f.sure : Int) then (cutN k f.data.length : Int) else (f.sure : Int))] =
          some (σ1.set f.p (.row [.slice f.sl.b f.sl.o (cutN k f.data.length) 1, .int .i64 ((min f.sure (cutN k f.data.length) : Nat) : Int)] .rw)) := by
        unfold Heap.store
        rw [r1]
        simp only [List.length_cons, List.length_nil, overwrite, List.set_cons_succ, List.set_cons_zero, List.set_set]
        rw [if_pos (by omega)]
        have : (if (cutN k f.data.length : Int) < (f.sure : Int) then (cutN k f.data.length : Int) else (f.sure : Int)) = ((min f.sure (cutN k f.data.length) : Nat) : Int) := by split <;> omega
        rw [this]
      rw [c1, Option.bind_some, Option.bind_some] at hr
      dsimp only at hr
      rw [c0, Option.bind_some, Option.bind_some] at hr
      dsimp only at hr
      rw [s1, Option.bind_some] at hr
      rw [e2]
      obtain ⟨q1, q2⟩ := k2.headFile hg1 hcl (show min f.sure (cutN k f.data.length) ≤ _ from Nat.min_le_right ..)
      refine ⟨_, _, call_ok ok hK hr, q1, k3.trans q2, ?_⟩
      simp only [SD.sto, Sto.put]
      rw [← putK_map (k := FD.name) (k' := Fil.name) (g := FD.fil) (fun _ => rfl)]
      rfl
end Go.Abs.TC
namespace Go.Abs.TC
open Go Go.Abs Go.Proofs

theorem keep_ok {σ σ' : Heap} (h : Keep σ σ') : keep? σ σ' = some () := by unfold keep?; rw [if_pos h]
/-- Bytes behind a file's. -/
theorem append_data {σ : Heap} {f : FD} {xs : List UInt8} (g : FileIn σ .rw f) (hx : f.data.length + xs.length ≤ 1000000) :
    ∃ q σ2, σ.append f.sl.b f.sl.o f.sl.n 1 1 (eU8.all xs) xs.length = some (q, σ2) ∧ q.2.1 = 0 ∧ q.2.2 = (f.data ++ xs).length ∧
      ((q.1 = none ∧ f.data ++ xs = []) ∨ ∃ b cs, q.1 = some b ∧ σ2[b]? = some (.row cs .rw) ∧ cs.take (f.data ++ xs).length = eU8.all (f.data ++ xs)) ∧
      σ.length ≤ σ2.length ∧ (∀ b, b < σ.length → f.sl.b ≠ some b → σ2[b]? = σ[b]?) ∧ (∀ b, q.1 = some b → f.sl.b = some b ∨ σ.length ≤ b) ∧ Keep σ σ2 := by
  unfold Heap.append
  by_cases h0 : xs.length = 0
  · obtain rfl := List.eq_nil_of_length_eq_zero h0
    rw [if_pos h0]
    refine ⟨_, _, rfl, g.o, by simp [g.n], ?_, Nat.le_refl _, fun _ _ _ => rfl, fun b hb => .inl hb, ⟨Nat.le_refl _, fun _ _ => .inl rfl⟩⟩
    simpa using g.data
  · rw [if_neg h0, if_pos ⟨by rw [g.n]; omega, by rw [g.n]; omega, by rw [eU8_len]; omega⟩]
    rcases g.data with ⟨k1, k2⟩ | ⟨b, cs, k1, k2, k3⟩
    · rw [k1]
      refine ⟨_, _, rfl, rfl, by simp [k2], .inr ⟨σ.length, _, rfl, get_push .., ?_⟩, by simp, fun b hb _ => List.getElem?_append_left hb, fun b hb => .inr (by injection hb with hb; omega), ⟨by simp, fun b hb => .inl (List.getElem?_append_left hb)⟩⟩
      rw [k2, List.nil_append, List.take_of_length_le (by rw [eU8_len]; exact Nat.le_refl _)]
    · rw [k1]
      simp only [k2]
      have hlen : f.data.length ≤ cs.length := by
        have := congrArg List.length k3
        rw [List.length_take, eU8_len] at this
        omega
      have hb := (List.getElem?_eq_some_iff.1 k2).1
      rw [if_pos (by rw [g.o, g.n]; omega)]
      refine ⟨_, _, rfl, rfl, by simp [g.n], .inr ⟨σ.length, (cs.drop f.sl.o).take (f.sl.n * 1) ++ eU8.all xs, rfl, ?_, ?_⟩, by simp, fun c hc hne => ?_, fun c hc => .inr (by injection hc with hc; omega), ⟨by simp, fun c hc => ?_⟩⟩
      · have := get_push (σ.set b (.row [] .dead)) (.row ((cs.drop f.sl.o).take (f.sl.n * 1) ++ eU8.all xs) .rw)
        rw [List.length_set] at this
        exact this
      · rw [g.o, List.drop_zero, g.n, Nat.mul_one, k3, ← eU8.all_append, List.take_of_length_le (by rw [eU8_len]; exact Nat.le_refl _)]
      · rw [List.getElem?_append_left (by simp; exact hc), List.getElem?_set_ne fun e => hne (by rw [e])]
      · rw [List.getElem?_append_left (by simp; exact hc)]
        by_cases e : c = b
        · subst e
          exact .inr ⟨by simp [hb], cs, k2⟩
        · exact .inl (List.getElem?_set_ne (Ne.symm e))
/-- .. and the file is told so. -/
theorem St.grow {σ : Heap} {d : SD} {n : ByteArray} {f : FD} {xs : List UInt8} (h : St σ .rw d) (hf : d.get n = some f) (hx : usedF d.fs + d.fs.length + xs.length ≤ 1000000) (hq : usedF d.fs + xs.length ≤ d.quota) :
    ∃ q σ2 σ3 f', σ.append f.sl.b f.sl.o f.sl.n 1 1 (eU8.all xs) xs.length = some (q, σ2) ∧ keep? σ σ2 = some () ∧ map? (σ2.cell? d.s 0) = some (some d.bm) ∧ σ2.look (some d.bm) (.str n) (.ptr none) = some (.ptr (some (f.p, 0))) ∧
      σ2.store f.p 0 [.slice q.1 q.2.1 q.2.2 1] = some σ3 ∧ f'.fil = { f.fil with data := f.data ++ xs } ∧ St σ3 .rw { d with fs := putK FD.name f' d.fs } ∧ Fr σ d σ3 { d with fs := putK FD.name f' d.fs } := by
  obtain ⟨hfm, hfn⟩ := getK_mem (k := FD.name) hf
  have g := h.file f hfm
  have hfl := usedF_mem hfm
  have hp := pieces (h.nd.each f hfm)
  have hout := h.nd.out f hfm
  obtain ⟨q, σ2, e1, e2, e3, e4, e5, e6, e7, e8⟩ := append_data (xs := xs) g (by omega)
  have keep : ∀ b, b < σ.length → (∀ c, f.sl.b = some c → b ≠ c) → σ2[b]? = σ[b]? := fun b hb hn => e6 b hb fun hc => hn b hc rfl
  have hs2 : σ2[d.s]? = some (.row d.head .rw) := (keep d.s (List.getElem?_eq_some_iff.1 h.hd).1 fun c hc e => hout.1 (by simp [FD.blocks, hc, e])).trans h.hd
  have hm2 : σ2[d.bm]? = some (.map (d.fs.map ent) .rw) := (keep d.bm h.bm_lt fun c hc e => hout.2 (by simp [FD.blocks, hc, e])).trans h.mp
  have hf2 : σ2[f.p]? = some (.row f.row .rw) := (keep f.p g.lt fun c hc e => hp c hc e.symm).trans g.row
  have hq1 : ∀ b, q.1 = some b → b ≠ f.p := fun b hb e => by
    rcases e7 b hb with h1 | h1
    · exact hp b h1 e
    · have := g.lt; omega
  refine ⟨q, σ2, σ2.set f.p (.row (f.row.set 0 (.slice q.1 q.2.1 q.2.2 1)) .rw), { f with sl := ⟨q.1, q.2.1, q.2.2⟩, data := f.data ++ xs }, e1, keep_ok e8, ?_, ?_, store_file hf2 0 _ (by omega), rfl, ?_⟩
  · unfold Heap.cell?; rw [row?_of hs2 (by simp)]; rfl
  · unfold Heap.look
    rw [entries_rd hm2 trivial, Option.bind_some]
    rcases findC_ent n d.fs 0 with ⟨h1, _⟩ | ⟨j, f1, h1, h2, _⟩
    · unfold SD.get at hf; rw [hf] at h1; cases h1
    · unfold SD.get at hf
      rw [hf] at h1
      injection h1 with h1
      subst h1
      rw [h2]; rfl
  · have hlt2 : f.p < σ2.length := (List.getElem?_eq_some_iff.1 hf2).1
    refine h.putFile hf hfn rfl ⟨by simp [hlt2, FD.row], e2, e3, by have := g.sure; simp only [List.length_append]; omega, ?_⟩ (by simpa using e5) (fun b hb hn => ?_) (fun b hb => ?_) ?_ (by simp only [List.length_append]; omega) (by simp only [List.length_append]; omega)
    · rcases e4 with h1 | ⟨b, cs, h1, h2, h3⟩
      · exact .inl h1
      · exact .inr ⟨b, cs, h1, by rw [List.getElem?_set_ne (Ne.symm (hq1 b h1))]; exact h2, h3⟩
    · rw [List.getElem?_set_ne fun e => hn (by simp [FD.blocks, e])]
      exact e6 b hb fun hc => hn (by simp [FD.blocks, hc])
    · simp only [FD.blocks, List.mem_cons, Option.mem_toList] at hb
      rcases hb with rfl | hb
      · exact .inl (by simp [FD.blocks])
      · exact (e7 b hb).imp (fun h1 => by simp [FD.blocks, h1]) id
    · simp only [FD.blocks, List.nodup_cons, Option.mem_toList]
      refine ⟨fun hm => hq1 _ hm rfl, ?_⟩
      cases q.1 <;> simp
/-- A new file. -/
theorem St.newFile {σ : Heap} {d : SD} {n : ByteArray} (h : St σ .rw d) (hf : d.get n = none) (hn : nameOk n = true) (hx : usedF d.fs + d.fs.length < 1000000) :
    ∃ σ2, Heap.mput (σ ++ [.row [.slice none 0 0 1, .int .i64 0] .rw]) (some d.bm) (.str n) (.ptr (some (σ.length, 0))) = some σ2 ∧
      St σ2 .rw { d with fs := putK FD.name ⟨n, σ.length, ⟨none, 0, 0⟩, [], 0⟩ d.fs } ∧ Fr σ d σ2 { d with fs := putK FD.name ⟨n, σ.length, ⟨none, 0, 0⟩, [], 0⟩ d.fs } ∧
      getK FD.name n (putK FD.name ⟨n, σ.length, ⟨none, 0, 0⟩, [], 0⟩ d.fs) = some ⟨n, σ.length, ⟨none, 0, 0⟩, [], 0⟩ := by
  have h1 := h.pre (pre_push σ (.row [.slice none 0 0 1, .int .i64 0] .rw))
  obtain ⟨u1, u2⟩ := usedF_put_none (x := ⟨n, σ.length, ⟨none, 0, 0⟩, [], 0⟩) hf
  have hu := h.used
  have hlt : ∀ b ∈ d.foot, b < σ.length := fun b hb => h.foot_lt hb
  refine ⟨_, mput_eq (x := ⟨n, σ.length, ⟨none, 0, 0⟩, [], 0⟩) h1.mp, ?_⟩
  have key := h1.setMap (pre_push σ (.row [.slice none 0 0 1, .int .i64 0] .rw)) (fs' := putK FD.name ⟨n, σ.length, ⟨none, 0, 0⟩, [], 0⟩ d.fs) (fun g hg => ?_) (pair_put h.names h.nd.apart fun y hy _ => ?_) (names_put h.names) (by rw [u1]; simpa using hu) (by rw [u1, u2]; simp only [List.length_nil]; omega) (fun g hg b hb => ?_)
  · refine ⟨key.1, key.2, ?_⟩
    have := hf
    unfold SD.get at this
    rw [putK_none (k := FD.name) (y := ⟨n, σ.length, ⟨none, 0, 0⟩, [], 0⟩) this]
    clear key u1 u2 hlt hu h1 hx hf h
    revert this
    generalize d.fs = fs
    induction fs with
    | nil => intro _; simp [getK]
    | cons g r ih =>
      intro hg
      simp only [getK] at hg
      split at hg
      · cases hg
      · rename_i e
        simp only [List.cons_append, getK, if_neg e]
        exact ih hg
  · rcases mem_putK hg with rfl | hg
    · refine ⟨⟨get_push .., rfl, rfl, Nat.le_refl _, .inl ⟨rfl, rfl⟩⟩, ?_, ?_, by simp [FD.blocks], nameOk_iff.1 hn⟩
      · have := hlt d.s (by simp [SD.foot])
        simp [FD.blocks]; omega
      · have := hlt d.bm (by simp [SD.foot])
        simp [FD.blocks]; omega
    · exact ⟨h1.file g hg, (h.nd.out g hg).1, (h.nd.out g hg).2, h.nd.each g hg, h.nok g hg⟩
  · have : ∀ b ∈ y.blocks, b ≠ σ.length := fun b hb => by
      have := hlt b (SD.mem_foot.2 (.inr (.inr ⟨y, hy, hb⟩))); omega
    have a1 : ∀ b ∈ y.blocks, b ∉ FD.blocks ⟨n, σ.length, ⟨none, 0, 0⟩, [], 0⟩ := fun b hb hm => this b hb (by simpa [FD.blocks] using hm)
    exact ⟨⟨a1, fun b hb hb' => a1 b hb' hb⟩, ⟨fun b hb hb' => a1 b hb' hb, a1⟩⟩
  · rcases mem_putK hg with rfl | hg
    · simp [FD.blocks] at hb; exact .inr (by omega)
    · exact .inl (SD.mem_foot.2 (.inr (.inr ⟨g, hg, hb⟩)))
def Sto.append (t : Sto) (n : ByteArray) (xs : List UInt8) : Int × Sto :=
  if t.down then (8, t) else if nameOk n = false then (3, t) else if t.quota < t.used + xs.length then (5, t) else
  if t.change.1 = 0 then (0, t.change.2.put (match t.get n with | some f => { f with data := f.data ++ xs } | none => ⟨n, xs, 0⟩)) else t.change
open Classical in
/-- The bytes of a slice. -/
noncomputable def readU8 (σ : Heap) (b : Sl) : Option (List UInt8) := if h : ∃ xs, b.Is eU8 σ xs then some h.choose else none
theorem readU8_eq {σ : Heap} {b : Sl} {xs : List UInt8} (h : b.Is eU8 σ xs) : readU8 σ b = some xs := by
  unfold readU8
  have h' : ∃ xs, b.Is eU8 σ xs := ⟨xs, h⟩
  rw [dif_pos h', h'.choose_spec.uniq (by decide) h]
theorem putK_putK {α : Type} {k : α → ByteArray} {x y : α} (h : k x = k y) : ∀ l : List α, putK k x (putK k y l) = putK k x l
  | [] => by simp [putK, h]
  | g :: r => by
    simp only [putK]
    by_cases e : k g = k y
    · rw [if_pos e, if_pos (e.trans h.symm)]
      simp only [putK, if_pos h.symm]
    · have e2 : ¬ k g = k x := fun e' => e (e'.trans h)
      rw [if_neg e, if_neg e2]
      simp only [putK, if_neg e2]
      rw [putK_putK h r]
noncomputable def c_file_Store_Append : C_file_Store_Append := { file_named := w_file_named, file_Store_Used := w_file_Store_Used, file_Store_change := w_file_Store_change }
noncomputable def w_file_Store_Append (s : Pt) (n : ByteArray) (b : Sl) (σ : Heap) : Option (Int × Heap) := stRel 18 [.ptr s, .str n, .slice b.b b.o b.n 1] (tInt .i64).av s (fun t => (readU8 σ b).map fun xs => t.append n xs) σ
theorem ok_file_Store_Append : Ok_file_Store_Append w_file_Store_Append := fun _ _ _ _ _ _ h => stRel_ok h
theorem w_file_Store_Append_ex {σ : Heap} {d : SD} (h : St σ .rw d) (hl : LeftOk d) (n : ByteArray) {b : Sl} {xs : List UInt8} (hb : b.Is eU8 σ xs) (hout : ∀ c, b.b = some c → c ∉ d.foot) (hroom : usedF d.fs + d.fs.length + xs.length < 1000000) :
    ∃ σ' d', w_file_Store_Append (some (d.s, 0)) n b σ = some ((d.sto.append n xs).1, σ') ∧ St σ' .rw d' ∧ Fr σ d σ' d' ∧ d'.sto = (d.sto.append n xs).2 := by
  obtain ⟨bb, bo, bn⟩ := b
  obtain rfl : bn = xs.length := hb.n
  refine stRel_ex (op := fun t => (readU8 σ ⟨bb, bo, xs.length⟩).map fun xs => t.append n xs) h (r := d.sto.append n xs) (by simp only [readU8_eq hb, Option.map_some]) ?_
  have p1 : c_file_Store_Append.file_named = w_file_named := rfl
  have p2 : c_file_Store_Append.file_Store_change = w_file_Store_change := rfl
  have p3 : c_file_Store_Append.file_Store_Used = w_file_Store_Used := rfl
  have hr := file_Store_Append_eq (R := AVal × Heap) c_file_Store_Append 0 (some (d.s, 0)) n ⟨bb, bo, xs.length⟩ σ fun v σ => some (v, σ)
  have hu := h.used
  have hq := h.q
  have hK := K_file_Store_Append c_file_Store_Append ok_file_Store_Used ok_file_named ok_file_Store_change
  rw [Option.bind_some] at hr
  dsimp only at hr
  rw [h.c4 trivial, Option.bind_some, p1, w_file_named, Option.bind_some, p2, p3, Option.bind_some] at hr
  dsimp only at hr
  rw [h.c1 trivial, Option.bind_some, w_file_Store_Used_eq (m := .ro) trivial h.frz, Option.bind_some, Heap.back_frz] at hr
  dsimp only at hr
  rw [wrap_i64_of (by omega) (by omega)] at hr
  unfold Sto.append
  by_cases hd : d.sto.down = true
  · rw [if_pos hd]
    rw [show d.down = true from hd, cond_true] at hr
    exact ⟨σ, d, call_ok ok hK hr, h, .refl, rfl⟩
  rw [if_neg hd]
  have hd' : d.down = false := by simpa [SD.sto] using hd
  rw [hd', cond_false] at hr
  by_cases hn : nameOk n = false
  · rw [if_pos hn]
    rw [hn, Bool.not_false, cond_true] at hr
    exact ⟨σ, d, call_ok ok hK hr, h, .refl, rfl⟩
  rw [if_neg hn]
  have hn' : nameOk n = true := by simpa using hn
  rw [hn', Bool.not_true, cond_false] at hr
  rw [SD.used_sto]
  by_cases hf : d.sto.quota < usedF d.fs + xs.length
  · rw [if_pos hf]
    rw [show decide ((xs.length : Int) > (d.quota : Int) - (usedF d.fs : Int)) = true by simp only [SD.sto] at hf; simp; omega, cond_true] at hr
    exact ⟨σ, d, call_ok ok hK hr, h, .refl, rfl⟩
  rw [if_neg hf]
  have hf' : usedF d.fs + xs.length ≤ d.quota := by simp only [SD.sto] at hf; omega
  obtain ⟨c1, c2, c3, c4, c5, c6⟩ := changeD_eq d
  obtain ⟨k1, k2⟩ := change_st h
  rw [show decide ((xs.length : Int) > (d.quota : Int) - (usedF d.fs : Int)) = false by simp; omega, cond_false, w_file_Store_change_eq h hl, Option.bind_some] at hr
  dsimp only at hr
  generalize σ.set d.s (.row (changeD d).2.head .rw) = σ1 at k1 k2 hr
  generalize hd1 : (changeD d).2 = d1 at k1 k2 c2 c3 c4 c5 c6
  rw [c1] at hr
  rcases change_code d.sto with hc | hc
  rotate_left
  · rw [if_neg (by rw [hc]; decide)]
    rw [hc, show ((8 : Int) != 0) = true from rfl, cond_true] at hr
    rw [hc]
    exact ⟨σ1, d1, call_ok ok hK hr, k1, k2, c2⟩
  rw [if_pos hc]
  rw [hc, show ((0 : Int) != 0) = false from rfl, cond_false, Option.bind_some] at hr
  dsimp only at hr
  have hb1 : Sl.Is ⟨bb, bo, xs.length⟩ eU8 σ1 xs := hb.of_row fun c cs hc hrow => by rw [row?_congr (k2.at_ c (row?_lt hrow) (hout c hc))]; exact hrow
  have hout1 : ∀ c, bb = some c → c ∉ d1.foot := fun c hc hm => by
    rcases k2.foot c hm with h1 | h1
    · exact hout c hc h1
    · have := hb.lt hc; omega
  have hget1 : ∀ m, d1.get m = d.get m := fun m => by unfold SD.get; rw [c5]
  rw [← c3, k1.c0 trivial, Option.bind_some, k1.look trivial, Option.bind_some, ptr_ptrOf, Option.bind_some] at hr
  -- what is done once the file is there
  have fin : ∀ (σ2 : Heap) (d2 : SD) (f : FD), St σ2 .rw d2 → d2.get n = some f → d2.s = d1.s → d2.bm = d1.bm → Sl.Is ⟨bb, bo, xs.length⟩ eU8 σ2 xs → usedF d2.fs + d2.fs.length + xs.length ≤ 1000000 → usedF d2.fs + xs.length ≤ d2.quota → Fr σ d σ2 d2 →
      (callC (R := AVal × Heap) T (O_file_Store_Append c_file_Store_Append) 0 2 18 [.ptr (some (d1.s, 0)), .str n, .slice bb bo xs.length 1] σ fun v σ => some (v, σ)) =
        ((slice? (σ2.cell? f.p 0) 1).bind fun x40 => (Heap.read σ2 bb bo xs.length 1).bind fun vs41 => (Heap.append σ2 x40.1 x40.2.1 x40.2.2 1 1 vs41 xs.length).bind fun q42 => (keep? σ2 q42.2).bind fun _ =>
          (some (d1.s, 0)).bind fun q44 => (map? (Heap.cell? q42.2 q44.1 q44.2)).bind fun x45 => (Heap.look q42.2 x45 (.str n) (.ptr none)).bind fun v46 => (ptr? (some v46)).bind fun x47 => x47.bind fun q48 =>
          (Heap.store q42.2 q48.1 q48.2 [.slice q42.1.1 q42.1.2.1 q42.1.2.2 1]).bind fun σ49 => some (.int .i64 0, σ49)) →
      ∃ σ' d', CallOK Try.prog T 18 [.ptr (some (d.s, 0)), .str n, .slice bb bo xs.length 1] σ ((tInt .i64).av (0 : Int)) σ' ∧ St σ' .rw d' ∧ Fr σ d σ' d' ∧ d'.sto = (d2.sto).put { f.fil with data := f.data ++ xs } := fun σ2 d2 f m1 m2 m3 m4 m5 m6 m7 m8 hr => by
    have g := m1.file f (getK_mem (k := FD.name) m2).1
    obtain ⟨q, σ3, σ4, f', e1, e2, e3, e4, e5, e6, e7, e8⟩ := m1.grow m2 m6 m7
    have hrd : σ2.read bb bo xs.length 1 = some (eU8.all xs) := by exact m5.read
    rw [g.c0 trivial, Option.bind_some, hrd, Option.bind_some, e1, Option.bind_some, e2, Option.bind_some, Option.bind_some] at hr
    dsimp only at hr
    rw [m3, m4] at *
    rw [e3, Option.bind_some, e4, Option.bind_some, show ptr? (some (.ptr (some (f.p, 0)))) = some (some (f.p, 0)) from rfl, Option.bind_some, Option.bind_some] at hr
    dsimp only at hr
    rw [e5, Option.bind_some, c3] at hr
    refine ⟨σ4, _, call_ok ok hK hr, e7, m8.trans e8, ?_⟩
    simp only [SD.sto, Sto.put]
    rw [← e6, ← putK_map (k := FD.name) (k' := Fil.name) (g := FD.fil) (fun _ => rfl)]
  cases hg : d.get n with
  | some f =>
    have hgs : d.sto.get n = some f.fil := by rw [SD.get_sto, hg]; rfl
    rw [hgs]
    rw [hget1, hg] at hr
    simp only [ptOf, Option.isNone_some, cond_false, Option.bind_some] at hr
    rw [k1.c0 trivial, Option.bind_some, k1.look trivial, Option.bind_some, ptr_ptrOf, Option.bind_some, hget1, hg] at hr
    simp only [ptOf, Option.bind_some] at hr
    obtain ⟨σ', d', r1, r2, r3, r4⟩ := fin σ1 d1 f k1 (by rw [hget1]; exact hg) rfl rfl hb1 (by rw [c5]; omega) (by rw [c5, c6]; exact hf') k2 hr
    exact ⟨σ', d', r1, r2, r3, by rw [r4, c2]; rfl⟩
  | none =>
    have hgs : d.sto.get n = none := by rw [SD.get_sto, hg]; rfl
    rw [hgs]
    rw [hget1, hg] at hr
    simp only [ptOf, Option.isNone_none, cond_true, Option.bind_some] at hr
    rw [k1.c0 trivial, Option.bind_some] at hr
    obtain ⟨σ2, j1, j2, j3, j4⟩ := k1.newFile (n := n) (by rw [hget1]; exact hg) hn' (by rw [c5]; omega)
    simp only [alloc] at hr
    rw [j1, Option.bind_some] at hr
    have cs2 := j2.c0 trivial
    have lk2 := j2.look trivial n
    dsimp only at cs2 lk2
    have hg2 : SD.get { d1 with fs := putK FD.name ⟨n, σ1.length, ⟨none, 0, 0⟩, [], 0⟩ d1.fs } n = some ⟨n, σ1.length, ⟨none, 0, 0⟩, [], 0⟩ := j4
    rw [cs2, Option.bind_some, lk2, Option.bind_some, ptr_ptrOf, Option.bind_some, hg2] at hr
    simp only [ptOf, Option.bind_some] at hr
    obtain ⟨u1, u2⟩ := usedF_put_none (x := ⟨n, σ1.length, ⟨none, 0, 0⟩, [], 0⟩) (show getK FD.name n d1.fs = none by have := hget1 n; unfold SD.get at this; rw [this]; exact hg)
    rw [c5] at u1 u2
    have hb2 : Sl.Is ⟨bb, bo, xs.length⟩ eU8 σ2 xs := hb1.of_row fun c cs hc hrow => by rw [row?_congr (j3.at_ c (row?_lt hrow) (hout1 c hc))]; exact hrow
    obtain ⟨σ', d', r1, r2, r3, r4⟩ := fin σ2 _ _ j2 hg2 rfl rfl hb2 (by simp only [c5, u1, u2, List.length_nil]; omega) (by simp only [c5, u1, c6, List.length_nil]; omega) (k2.trans j3) hr
    refine ⟨σ', d', r1, r2, r3, ?_⟩
    rw [r4, ← c2]
    simp only [SD.sto, Sto.put, List.nil_append]
    rw [← putK_map (k := FD.name) (k' := Fil.name) (g := FD.fil) (fun _ => rfl)]
    congr 1
    exact putK_putK (k := Fil.name) (x := ⟨n, xs, 0⟩) (y := ⟨n, [], 0⟩) rfl _
end Go.Abs.TC
namespace Go.Abs
open Go Go.RowKit
variable {P : Program} {T : Tab}
/-- A call that lays a new block beside what was there. -/
theorem below_new {ρ : Mp} {σ : Heap} {w w' : World} (hH : HRel ρ σ w) (hb : Below w.heap.size w w') {g n : Nat} (hg : w.heap.size ≤ g) {x : Blk} (hx : BRel ρ ⟨g, 0, n⟩ w' x) (hro : x.isRO = false) :
    HRel (upd ρ σ.length ⟨g, 0, n⟩) (σ ++ [x]) w' ∧ Step ρ noL [] σ w (upd ρ σ.length ⟨g, 0, n⟩) noL [] (σ ++ [x]) w' := by
  have hn := hH.none_of_len (Nat.le_refl _)
  have hext := upd_ext (⟨g, 0, n⟩ : Pl) hn
  have hlt : ∀ b pl y, ρ b = some pl → σ[b]? = some y → y.live = true → pl.blk < w.heap.size := fun b pl y hb' hy hl => by
    obtain ⟨z, hz, hB⟩ := hH.blk b pl hb'
    rw [hy] at hz
    injection hz with hz
    subst hz
    exact hB.lt hl
  refine ⟨⟨fun b pl hb' => ?_, fun b b' pl pl' y y' hb' hb2 hy hy' hne hl hl' hr => ?_⟩, hb.os, hb.tape, hb.output, hb.size, by simp, hext, fun b h0 h1 => ?_, fun k hk _ _ => hb.block k hk, fun b pl y hb' hy hr => ?_, fun b y hy hr => ?_, fun b y hy hr => ?_, fun t k h => by cases h⟩
  · by_cases e : b = σ.length
    · subst e
      rw [upd_same] at hb'
      injection hb' with hb'
      subst hb'
      exact ⟨x, by simp, BRel.mono hext (fun _ => rfl) hx⟩
    · rw [upd_ne _ _ e] at hb'
      obtain ⟨y, hy, hB⟩ := hH.blk b pl hb'
      exact ⟨y, by rw [getElem?_snoc, if_neg e]; exact hy, BRel.mono hext (fun hl => hb.block _ (hB.lt hl)) hB⟩
  · rw [getElem?_snoc] at hy hy'
    by_cases e : b = σ.length
    · subst e
      rw [upd_same] at hb'
      injection hb' with hb'
      subst hb'
      rw [if_neg (Ne.symm hne)] at hy'
      rw [upd_ne _ _ (Ne.symm hne)] at hb2
      have := hlt b' pl' y' hb2 hy' hl'
      simp only; omega
    · rw [if_neg e] at hy
      rw [upd_ne _ _ e] at hb'
      have h1 := hlt b pl y hb' hy hl
      by_cases e' : b' = σ.length
      · subst e'
        rw [upd_same] at hb2
        injection hb2 with hb2
        subst hb2
        simp only; omega
      · rw [if_neg e'] at hy'
        rw [upd_ne _ _ e'] at hb2
        exact hH.dis b b' pl pl' y y' hb' hb2 hy hy' hne hl hl' hr
  · by_cases e : b = σ.length
    · omega
    · rw [upd_ne _ _ e] at h1; exact absurd h0 h1
  · by_cases e : b = σ.length
    · subst e
      rw [upd_same] at hb'
      injection hb' with hb'
      subst hb'
      exact .inl hg
    · rw [upd_ne _ _ e] at hb'
      rw [getElem?_snoc, if_neg e] at hy
      exact .inr ⟨b, pl, y, hb', hy, hr, rfl⟩
  · rw [List.getElem?_append_left (List.getElem?_eq_some_iff.1 hy).1]; exact hy
  · rw [getElem?_snoc] at hy
    by_cases e : b = σ.length
    · rw [if_pos e] at hy
      injection hy with hy
      subst hy
      rw [hro] at hr; cases hr
    · rw [if_neg e] at hy; exact hy
/-- A call of a Go function, by hand. -/
theorem wpOps_call {ops : Array Oper} {Q : Exit → Act → World → Prop} {i : Nat} {r : List Nat} {o : Oper} (hi : ops[i]? = some o) (hg : o.guard = none) {a : Act} {w : World} {g : FuncId} {args : Array Value} (hr : (execOp a.eval o).run P w = .ok (.enter g args) w)
    {R : Value → World → Prop} (hc : Calls P g args w fun e w' => ∃ v, e = .returned v ∧ R v w') (h : ∀ v w', R v w' → wpOps P ops Q r (a.put o.dst v) w') : wpOps P ops Q (i :: r) a w := by
  simp only [wpOps, hi]
  rw [if_pos (by simp [Region.wanted, hg])]
  refine .inl ?_
  unfold Oper.wp
  rw [hr, Oper.upon_enter]
  refine Calls.mono hc fun ex w'' he => ?_
  obtain ⟨v, rfl, hR⟩ := he
  exact h v w'' hR
end Go.Abs
namespace Go.Abs.TC
open Go Go.Abs Go.Proofs
theorem names_h0 {σ : Heap} (s : Nat) (l : Locs) : codeC (R := Ex × Env × Locs × Heap) T 0 29 (callC T known0 0 0) (Code.sub (bodyOf Try.f29) [0]) ([.ptr (some (s, 0))] ++ List.replicate 8 .undef) l σ (fun x e l σ => some (x, e, l, σ)) =
    some (.normal, [.ptr (some (s, 0)), .undef, .slice none 0 0 1] ++ List.replicate 6 .undef, l, σ) := by kernel_rfl
noncomputable def opsN : Array Oper := match Code.sub (bodyOf Try.f29) [1, 0] with | .region _ ops _ => ops | _ => #[]
theorem names_code : bodyOf Try.f29 = .seq (Code.sub (bodyOf Try.f29) [0]) (.seq (.region 1 opsN false) .ret) := by kernel_rfl
theorem names_good : goodCode T 29 (Code.sub (bodyOf Try.f29) [0]) = true := by kernel_rfl
theorem names_ops : opsN.toList = (opsN.toList.take 4) ++ [opsN.toList.getD 4 default, opsN.toList.getD 5 default, opsN.toList.getD 6 default] := by kernel_rfl
theorem names_pre {σ : Heap} {s bm : Nat} (l : Locs) (h : map? (σ.cell? s 0) = some (some bm)) :
    opsC (R := Env × Locs × Heap) T 29 (callC T known0 0 0) opsN (opsN.toList.take 4) [] [] ([.ptr (some (s, 0)), .undef, .slice none 0 0 1] ++ List.replicate 6 .undef) l σ none (fun e l σ => some (e, l, σ)) =
      some ([.ptr (some (s, 0)), .undef, .slice none 0 0 1, .ptr (some (s, 0)), .ptr (some (s, 0)), .ptr (some (s, 0)), .map (some bm), .undef, .undef], l, σ) := by
  have : opsC (R := Env × Locs × Heap) T 29 (callC T known0 0 0) opsN (opsN.toList.take 4) [] [] ([.ptr (some (s, 0)), .undef, .slice none 0 0 1] ++ List.replicate 6 .undef) l σ none (fun e l σ => some (e, l, σ)) =
      (map? (σ.cell? s 0)).bind fun x => some ([.ptr (some (s, 0)), .undef, .slice none 0 0 1, .ptr (some (s, 0)), .ptr (some (s, 0)), .ptr (some (s, 0)), .map x, .undef, .undef], l, σ) := by kernel_rfl
  rw [this, h]
  rfl
theorem names_o4 : (opsN.toList.getD 4 default).op = .call { callee := .value (.func 52), args := #[.tmp 6], argTypes := #[67] } ∧ (opsN.toList.getD 4 default).dst = some 7 ∧ (opsN.toList.getD 4 default).guard = none := ⟨by kernel_rfl, by kernel_rfl, by kernel_rfl⟩
theorem names_o5 : (opsN.toList.getD 5 default).op = .call { callee := .value (.func 51), args := #[.tmp 7], argTypes := #[89] } ∧ (opsN.toList.getD 5 default).dst = some 8 ∧ (opsN.toList.getD 5 default).guard = none := ⟨by kernel_rfl, by kernel_rfl, by kernel_rfl⟩
theorem names_o6 : (opsN.toList.getD 6 default).op = .assign (.tmp 8) ∧ (opsN.toList.getD 6 default).dst = some 2 ∧ (opsN.toList.getD 6 default).guard = none := ⟨by kernel_rfl, by kernel_rfl, by kernel_rfl⟩
end Go.Abs.TC
namespace Go.Abs.TC
open Go Go.Abs Go.Proofs Go.RowKit Go.Maps Go.Sort
open Go.WideElems (Fit)

def eStr : El ByteArray := ⟨1, fun s => [.str s], fun _ => rfl, fun a b h => by simpa using h⟩
instance : El.Flat eStr := ⟨fun _ => rfl⟩
def bl (s : ByteArray) : List UInt8 := s.data.toList
def lb (l : List UInt8) : ByteArray := ⟨l.toArray⟩
theorem lb_bl (s : ByteArray) : lb (bl s) = s := by cases s; simp [lb, bl]
theorem bl_lb (l : List UInt8) : bl (lb l) = l := by simp [lb, bl]
/-- All names, rising. -/
def sortN (l : List ByteArray) : List ByteArray := ((l.map bl).mergeSort leB).map lb

theorem keyOf_str {n : ByteArray} (hn : n.size ≤ 12) : keyOf Try.prog 9 (.string n) = some (.string n.data.toList) := by
  have h9 : Try.prog.underlying 9 = some .string := Try.underlying9
  simp only [keyOf, h9, mapKey]
  rw [if_pos (by unfold maxLen; omega)]
/-- The map, told to the kit. -/
theorem map_owns {σ : Heap} {w : World} {ρ : Mp} {m : Mode} {d : SD} (hm : Mode.rd m) (h : St σ m d) (hH : HRel ρ σ w) {pl : Pl} (hp : ρ d.bm = some pl) :
    ∃ D0 : DataW Unit, w.ownsMap Try.prog 9 (fun _ => some (.nil, [])) pl.blk d.fs.length D0 ∧ Maps.size D0 = d.fs.length ∧ (strKeys D0).Perm (d.fs.map fun f => bl f.name) := by
  have hv : VRel ρ noL (.map (some d.bm)) (.map (some pl.blk)) := by simp only [VRel]; exact ⟨pl, hp, rfl⟩
  rcases entries_rel hH hv (entries_rd h.mp hm) with ⟨hn, _⟩ | ⟨b', pl', m', ms, cl, hb', hp', _, _, _, hw, hst, hM⟩
  · cases hn
  injection hb' with hb'
  subst hb'
  rw [hp] at hp'
  injection hp' with hp'
  subst hp'
  have hsz : ms.size = d.fs.length := by have := hM.1; simpa using this
  have hsm := h.sz
  have hkey : ∀ (j : Nat) (f : FD), d.fs[j]? = some f → ∃ me, ms[j]? = some me ∧ me.key = .string f.name := fun j f hf => by
    obtain ⟨me, e1, e2, _⟩ := hM.2 j (.str f.name) (.ptr (some (f.p, 0))) (by rw [List.getElem?_map, hf]; rfl)
    simp only [VRel] at e2
    exact ⟨me, by simpa using e1, e2⟩
  have hrd : ∀ (j : Nat) (f : FD), d.fs[j]? = some f → ∃ me, ms[j]? = some me ∧ WideElems.rd (H := Unit) Try.prog 9 (fun _ => some (.nil, [])) me = some (.string f.name.data.toList, .nil) := fun j f hf => by
    obtain ⟨me, e1, e2⟩ := hkey j f hf
    refine ⟨me, e1, ?_⟩
    unfold WideElems.rd
    rw [e2, keyOf_str (h.nok f (List.mem_of_getElem? hf)).2]
    rfl
  have hL : ms.toList.map (WideElems.rg (H := Unit) Try.prog 9 (fun _ => some (.nil, []))) = d.fs.map fun f => (Lit.string f.name.data.toList, DataW.nil) := by
    apply List.ext_getElem?
    intro j
    simp only [List.getElem?_map, Array.getElem?_toList]
    cases hf : d.fs[j]? with
    | none =>
      rw [Array.getElem?_eq_none (by rw [hsz]; exact List.getElem?_eq_none_iff.1 hf)]
      rfl
    | some f =>
      obtain ⟨me, e1, e2⟩ := hrd j f hf
      rw [e1]
      simp only [Option.map_some, WideElems.rg, e2, Option.getD_some]
  have hF : Fit (H := Unit) Try.prog 9 (fun _ => some (.nil, [])) ms cl := ⟨by unfold maxLen; omega, hst, fun x hx => by
    obtain ⟨j, hj⟩ := List.mem_iff_getElem?.1 hx
    rw [Array.getElem?_toList] at hj
    have hjl : j < d.fs.length := by rw [← hsz]; exact (Array.getElem?_eq_some_iff.1 hj).1
    obtain ⟨me, e1, e2⟩ := hrd j _ (List.getElem?_eq_getElem hjl)
    rw [hj] at e1
    injection e1 with e1
    subst e1
    exact ⟨_, e2⟩⟩
  refine ⟨_, ⟨ms, cl, hw, hF, by omega, rfl⟩, ?_, ?_⟩
  · rw [hL]
    show List.length _ = _
    rw [(WideShapes.sorted_perm _).length_eq, List.length_map]
  · rw [hL]
    show ((_ : List (Lit × DataW Unit)).map fun p => strOf p.1).Perm _
    refine ((WideShapes.sorted_perm _).map _).trans ?_
    rw [List.map_map]
    exact .of_eq rfl
theorem exec_call1 {P : Program} {o : Oper} {a : Act} {g : FuncId} {x : Operand} {ts : Array TypeId} {v : Value} (hop : o.op = .call { callee := .value (.func g), args := #[x], argTypes := ts }) (hx : a.eval x = v)
    (he : ∀ (args : Array Value) (w : World), (callFunc g args).run P w = .ok (.enter g args) w) (w : World) : (execOp a.eval o).run P w = .ok (.enter g #[v]) w := by
  have hf : a.eval (.func g) = .func (.func g) #[] #[] := rfl
  simp [execOp, hop, resolve, Deferred.ofValue, hf, hx, invoke, he]
theorem names_res (tmps : Array Value) (w : World) : (Try.f29.results.toList.mapM (resultOf tmps)).run Try.prog w = .ok [tmps.getD 2 undef] w := by
  have : Try.f29.results.toList = [.tmp 2] := by kernel_rfl
  rw [this]
  simp [List.mapM_cons, resultOf]
theorem eStr_all : ∀ xs : List ByteArray, eStr.all xs = xs.map AVal.str
  | [] => rfl
  | x :: r => by rw [El.all_cons, eStr_all r]; rfl
theorem names_calls {σ : Heap} {d : SD} (h : St σ .ro d) (hfz : ∀ (b : Nat) (x : Blk), σ[b]? = some x → x.isRW = false) (ρ : Mp) (ws : List Value) (w : World) (hH : HRel ρ σ w) (hG : GRel T ρ) (hw : VRels ρ noL [.ptr (some (d.s, 0))] ws) :
    Calls Try.prog 29 ws.toArray w fun e w' => ∃ v, e = .returned v ∧ w'.ownsRow w.heap.size 9 1 v d.fs.length (((d.fs.map fun f => bl f.name).mergeSort leB).map encStr) ∧ (v = .slice none 0 0 ↔ d.fs = []) ∧ Below w.heap.size w w' := by
  obtain ⟨f1, f2⟩ := ok.fn 29 Try.f29 fn_file_Store_Names
  have hsm := h.sz
  have hlen := hw.length
  have h29 : Try.f29.ntmps = 9 := by kernel_rfl
  refine calls_of_wp f1 (c := bodyOf Try.f29) (by kernel_rfl) ?_
  rw [h29]
  have hS : SRel T [] ρ noL ([.ptr (some (d.s, 0))] ++ List.replicate 8 .undef) (List.replicate 9 .none) σ { tmps := ws.toArray ++ Array.replicate (9 - ws.toArray.size) undef, defers := [] } w := by
    refine ⟨⟨by simp [hlen], fun t v hv => ?_, rfl⟩, hH, ⟨fun t k hk => (by cases hk), fun t t' k hk => (by cases hk), fun t k b pl x hk => (by cases hk)⟩, hG⟩
    cases t with
    | zero =>
      obtain ⟨u, e1, r1⟩ := hw.get 0 _ rfl
      rw [Array.getElem?_append_left (by simp [hlen])] at hv
      simp only [List.getElem?_toArray] at hv
      rw [e1] at hv
      injection hv with hv
      subst hv
      exact r1
    | succ t =>
      have : ([AVal.ptr (some (d.s, 0))] ++ List.replicate 8 AVal.undef).getD (t + 1) AVal.undef = AVal.undef := by
        simp only [List.getD, List.singleton_append, List.getElem?_cons_succ, List.getElem?_replicate]
        split <;> rfl
      rw [this]
      simp [VRel]
  rw [names_code]
  refine wp_seq (wp_mono (code_of ok known0_ok names_good (names_h0 d.s (List.replicate 9 .none)) [] ρ noL _ w hS) fun ex a1 w1 hq => ?_)
  obtain ⟨rfl, ρ1, lm1, s1, st1⟩ := hq
  show Exit.then _ _ .normal _ _
  simp only [Exit.then]
  refine wp_seq (wp_region ?_)
  rw [List.range_eq_range', show opsN.size = (opsN.toList.take 4 ++ [opsN.toList.getD 4 default, opsN.toList.getD 5 default, opsN.toList.getD 6 default]).length by rw [← names_ops]; simp]
  refine wpOps_part (P := Try.prog) [opsN.toList.getD 4 default, opsN.toList.getD 5 default, opsN.toList.getD 6 default] (opsN.toList.take 4) 0 (by rw [← names_ops]; simp) (trace_of ok (names_pre _ (h.c0 trivial))) s1 fun ρ2 lm2 a2 w2 s2 st2 => ?_
  have hb2 : Below w.heap.size w w2 := by
    have st := st1.trans st2
    exact ⟨st.os, st.tape, st.output, st.size, fun k hk => st.unch k hk (fun b pl x hb hx hr => by rw [hfz b x hx] at hr; cases hr) (fun t h => by cases h)⟩
  have ht4 : opsN[4]? = some (opsN.toList.getD 4 default) := by kernel_rfl
  have ht5 : opsN[5]? = some (opsN.toList.getD 5 default) := by kernel_rfl
  have ht6 : opsN[6]? = some (opsN.toList.getD 6 default) := by kernel_rfl
  have hl4 : (opsN.toList.take 4).length = 4 := by kernel_rfl
  show wpOps Try.prog opsN _ (List.range' (0 + (opsN.toList.take 4).length) 3) a2 w2
  rw [hl4]
  show wpOps Try.prog opsN _ [4, 5, 6] a2 w2
  have hsz2 : a2.tmps.size = 9 := s2.act.size
  have hv := ev_rel s2.act s2.glob (.tmp 6)
  rw [show ev T [.ptr (some (d.s, 0)), .undef, .slice none 0 0 1, .ptr (some (d.s, 0)), .ptr (some (d.s, 0)), .ptr (some (d.s, 0)), .map (some d.bm), .undef, .undef] (.tmp 6) = .map (some d.bm) from rfl] at hv
  obtain ⟨pl, hp, hv⟩ := by simpa only [VRel] using hv
  obtain ⟨D0, o1, o2, o3⟩ := map_owns (m := .ro) trivial h s2.heap hp
  obtain ⟨x1, x2, x3⟩ := names_o4
  obtain ⟨y1, y2, y3⟩ := names_o5
  obtain ⟨z1, z2, z3⟩ := names_o6
  have ev_put : ∀ (a : Act) (t : Nat) (v : Value), t < a.tmps.size → (a.put (some t) v).eval (.tmp t) = v := fun a t v ht => by simp [Act.put, Act.eval, Array.getD, ht]
  have sz_put : ∀ (a : Act) (t : Nat) (v : Value), (a.put (some t) v).tmps.size = a.tmps.size := fun a t v => by simp [Act.put]
  refine wpOps_call ht4 x3 (g := 52) (args := #[.map (some pl.blk)]) ?_ (R := fun v w' => v = .func (.func 56) #[] #[.pointer (some ⟨w2.heap.size, 0, none⟩)] ∧ w' = w2.alloc (.cells #[.map (some pl.blk)] 67)) ((callsIn_wide.1 (Try.maps_Keys_52 (some pl.blk) w2)).mono fun e w' ⟨h1, h2⟩ => ⟨_, h1, rfl, h2⟩) fun v w' ⟨h1, h2⟩ => ?_
  · exact exec_call1 x1 hv (enters_of Try.func52 (by kernel_rfl) rfl) w2
  subst h1; subst h2
  rw [x2]
  refine wpOps_call ht5 y3 (g := 51) (args := #[.func (.func 56) #[] #[.pointer (some ⟨w2.heap.size, 0, none⟩)]]) ?_ (R := fun v w' => ∃ ss : List (List UInt8), ss.Perm (strKeys D0) ∧
      w'.ownsRow (w2.alloc (.cells #[.map (some pl.blk)] 67)).heap.size 9 1 v ss.length ((ss.mergeSort leB).map encStr) ∧ (v = .slice none 0 0 ↔ ss = []) ∧ Below (w2.alloc (.cells #[.map (some pl.blk)] 67)).heap.size (w2.alloc (.cells #[.map (some pl.blk)] 67)) w')
    ((callsIn_wide.1 (Try.slices_Sorted_keys_51_52 pl.blk d.fs.length D0 _ w2 o1 (by rw [o2]; unfold maxLen; omega) (by rw [o2]; omega))).mono fun e w' ⟨v, ss, h1, h2⟩ => ⟨v, h1, ss, h2⟩) fun v w3 ⟨ss, p1, p2, p3, p4⟩ => ?_
  · exact exec_call1 y1 (ev_put a2 7 _ (by omega)) (enters_of Try.func51 (by kernel_rfl) rfl) _
  rw [y2]
  refine wpOps_one ht6 z3 (v := v) (w' := w3) ?_ ?_
  · simp only [execOp, z1, Sem.run_pure]
    rw [ev_put _ _ _ (by rw [sz_put, hsz2]; omega)]
  rw [z2]
  show Exit.then _ _ .normal _ _
  simp only [Exit.then]
  refine wp_ret ?_
  have hnames : ss.length = d.fs.length := by have := (p1.trans o3).length_eq; simpa using this
  have hms : ss.mergeSort leB = (d.fs.map fun f => bl f.name).mergeSort leB := mergeSort_of_perm (p1.trans o3)
  have hget := ev_put ((a2.put (some 7) (.func (.func 56) #[] #[.pointer (some ⟨w2.heap.size, 0, none⟩)])).put (some 8) v) 2 v (by rw [sz_put, sz_put, hsz2]; omega)
  have hrun : (results Try.f29 (((a2.put (some 7) (.func (.func 56) #[] #[.pointer (some ⟨w2.heap.size, 0, none⟩)])).put (some 8) v).put (some 2) v).tmps).run Try.prog w3 = .ok v w3 := by
    refine run_results (us := [v]) ((names_res _ _).trans ?_)
    rw [show (((a2.put (some 7) (.func (.func 56) #[] #[.pointer (some ⟨w2.heap.size, 0, none⟩)])).put (some 8) v).put (some 2) v).tmps.getD 2 undef = v from hget]
  refine ⟨s2.act.defers, v, hrun, v, rfl, ?_, ?_, ?_⟩
  · rw [← hms, ← hnames]
    rcases p2 with ⟨q1, q2⟩
    refine ⟨q1, q2.imp id fun ⟨g, cap, cur, r1, r2, r3⟩ => ⟨g, cap, cur, r1, ?_, r3⟩⟩
    have := hb2.size
    simp at r2
    omega
  · rw [p3]
    constructor
    · intro e; subst e; exact List.eq_nil_of_length_eq_zero (by simpa using hnames.symm)
    · intro e; rw [e] at hnames; exact List.eq_nil_of_length_eq_zero hnames
  · refine hb2.trans ⟨p4.os, p4.tape, p4.output, ?_, fun k hk => ?_⟩
    · have := p4.size; simp at this; omega
    · have := hb2.size
      rw [p4.block k (by simp; omega)]
      exact heap_alloc_old w2 _ (by omega)
/-! ### as one contract -/
def namesD (d : SD) : List ByteArray := sortN (d.fs.map FD.name)
noncomputable def w_file_Store_Names (s : Pt) (σ : Heap) : Option (Sl × Heap) :=
  wOf (fun d : SD => s = some (d.s, 0) ∧ ∃ m, Mode.rd m ∧ St σ m d) fun d => fresh eStr σ d.fs.isEmpty (namesD d)
theorem w_file_Store_Names_eq {σ : Heap} {m : Mode} {d : SD} (hm : Mode.rd m) (h : St σ m d) : w_file_Store_Names (some (d.s, 0)) σ = some (fresh eStr σ d.fs.isEmpty (namesD d)) :=
  wOf_eq (P := fun e : SD => some (d.s, 0) = some (e.s, 0) ∧ ∃ m, Mode.rd m ∧ St σ m e) (f := fun d => fresh eStr σ d.fs.isEmpty (namesD d)) ⟨rfl, m, hm, h⟩ fun e ⟨h1, m', _, h2⟩ => by
    injection h1 with h1
    injection h1 with h1 _
    rw [h.uniq h2 h1]
theorem ok_file_Store_Names : Ok_file_Store_Names w_file_Store_Names := fun s σ v σ' hw => by
  obtain ⟨d, ⟨rfl, m, hm, hd⟩, e⟩ := wOf_some hw
  have e1 : v = (fresh eStr σ d.fs.isEmpty (namesD d)).1 := (congrArg Prod.fst e).symm
  have e2 : σ' = (fresh eStr σ d.fs.isEmpty (namesD d)).2 := (congrArg Prod.snd e).symm
  subst e1; subst e2
  have hr := hd.toRO hm
  have hsm := hd.sz
  intro ρ ws w hH hG hws
  refine (names_calls hr (fun b x hx => by
    rw [Heap.frz_get] at hx
    obtain ⟨y, _, rfl⟩ := Option.map_eq_some_iff.1 hx
    exact Blk.frz_isRW y) ρ ws w hH.frz hG hws).mono fun e w' ⟨v, he, ⟨k1, k2⟩, k3, k4⟩ => ?_
  subst he
  have hnl : (namesD d).length = d.fs.length := by simp [namesD, sortN]
  cases hfs : d.fs with
  | nil =>
    have hv := k3.2 hfs
    subst hv
    obtain ⟨h1, h2⟩ := below_step hH k4
    exact ⟨_, ρ, rfl, h1, by simp [fresh, tSl, VRel], h2⟩
  | cons f0 r0 =>
    have hne : d.fs ≠ [] := by rw [hfs]; simp
    rcases k2 with ⟨hv, _⟩ | ⟨g, cap, cur, hv, hg, hh, c1, c2, c3, c4⟩
    · exact absurd (k3.1 hv) hne
    subst hv
    rw [Nat.mul_one] at c3 c4
    have hcell : ∀ (j : Nat) (x : AVal), (eStr.all (namesD d))[j]? = some x → ∃ u, cur[j]? = some u ∧ VRel (fun _ => none) noL x u ∧ u.oneCell' = true := fun j x hx => by
      have hall : eStr.all (namesD d) = ((d.fs.map fun f => bl f.name).mergeSort leB).map fun l => AVal.str (lb l) := by
        rw [eStr_all]; simp [namesD, sortN, List.map_map, Function.comp_def]
      rw [hall, List.getElem?_map] at hx
      obtain ⟨l, hl, rfl⟩ := Option.map_eq_some_iff.1 hx
      have : (cur.toList.take d.fs.length)[j]? = some (encStr l) := by rw [c4, List.getElem?_map, hl]; rfl
      rw [List.getElem?_take] at this
      split at this
      · rw [Array.getElem?_toList] at this
        exact ⟨_, this, by simp [VRel, lb], rfl⟩
      · cases this
    have hel : (eStr.all (namesD d)).length = d.fs.length := by rw [El.all_len, hnl]; exact Nat.mul_one _
    have hB : BRel ρ ⟨g, 0, cur.size⟩ w' (.row (eStr.all (namesD d)) .rw) := by
      refine ⟨cur, 9, (0, 0), hh, rfl, by rw [hel]; simp only; omega, fun j x hx => ?_, fun _ => unfrozen0 _, fun j hj v hv => ?_⟩
      · obtain ⟨u, h1, h2, _⟩ := hcell j x hx
        exact ⟨u, by simpa using h1, h2.mono (fun _ _ h => by cases h) (fun _ _ h => h)⟩
      · obtain ⟨u, h1, _, h3⟩ := hcell j _ (List.getElem?_eq_getElem hj)
        simp only [Nat.zero_add] at hv
        rw [h1] at hv
        injection hv with hv
        subst hv
        exact h3
    obtain ⟨h1, h2⟩ := below_new hH k4 hg hB rfl
    refine ⟨.slice (some ⟨g, 0, none⟩) d.fs.length cap, upd ρ σ.length ⟨g, 0, cur.size⟩, rfl, h1, ?_, h2⟩
    show VRel _ noL (.slice (some σ.length) 0 (namesD d).length 1) _
    simp only [VRel]
    rw [hnl]
    exact ⟨_, _, cap, upd_same _ _ _, rfl, c1, by unfold maxLen at c2; omega, .inr ⟨by simp, by simp only; omega⟩⟩
end Go.Abs.TC
namespace Go.Abs.TC
open Go Go.Abs Go.Proofs

section
variable {α : Type} {k : α → ByteArray}
theorem getK_put (x : α) (m : ByteArray) : ∀ l : List α, getK k m (putK k x l) = if k x = m then some x else getK k m l
  | [] => by simp only [putK, getK]
  | g :: r => by
    simp only [putK]
    by_cases e : k g = k x
    · rw [if_pos e]
      simp only [getK]
      by_cases e2 : k x = m
      · rw [if_pos e2, if_pos e2]
      · rw [if_neg e2, if_neg e2, if_neg fun h => e2 (e.symm.trans h)]
    · rw [if_neg e]
      simp only [getK, getK_put x m r]
      by_cases e2 : k g = m
      · rw [if_pos e2, if_pos e2, if_neg fun h => e (e2.trans h.symm)]
      · rw [if_neg e2, if_neg e2]
theorem getK_del {n m : ByteArray} : ∀ {l : List α}, (l.map k).Nodup → getK k m (delK k n l) = if m = n then none else getK k m l
  | [], _ => by simp [delK, getK]
  | g :: r, h => by
    simp only [List.map_cons, List.nodup_cons] at h
    simp only [delK]
    by_cases e : k g = n
    · rw [if_pos e]
      simp only [getK]
      by_cases e2 : m = n
      · rw [if_pos e2, e2]
        exact getK_none.2 fun x hx e3 => h.1 (List.mem_map.2 ⟨x, hx, e3.trans e.symm⟩)
      · rw [if_neg e2, if_neg fun h => e2 (h.symm.trans e)]
    · rw [if_neg e]
      simp only [getK, getK_del h.2]
      by_cases e2 : k g = m
      · rw [if_pos e2, if_pos e2, if_neg fun h => e (e2.trans h)]
      · rw [if_neg e2, if_neg e2]
end
def crashN (more : Nat) (f : Fil) : Nat := f.sure + min more (f.data.length - f.sure)
/-- What a crash leaves of a file. -/
def crashF (more : Nat) (f : Fil) : Fil := { f with data := f.data.take (crashN more f), sure := crashN more f }
def keepAt (ks : List Int) (i : Nat) : Nat := (ks.getD i 0).toNat
def crash1 (more : Nat) (n : ByteArray) (fs : List Fil) : List Fil := match getK Fil.name n fs with
  | some f => putK Fil.name (crashF more f) fs
  | none => fs
def crashGo (ks : List Int) : List ByteArray → Nat → List Fil → List Fil
  | [], _, fs => fs
  | n :: ns, i, fs => crashGo ks ns (i + 1) (crash1 (keepAt ks i) n fs)
def Sto.names (t : Sto) : List ByteArray := sortN (t.fs.map Fil.name)
def Sto.crash (t : Sto) (ks : List Int) : Sto := { t with fs := crashGo ks t.names 0 t.fs, down := false, armed := false }
theorem SD.names_sto (d : SD) : d.sto.names = namesD d := by simp [Sto.names, namesD, SD.sto, List.map_map, Function.comp_def, FD.fil]
theorem mem_sortN {l : List ByteArray} {n : ByteArray} : n ∈ sortN l ↔ n ∈ l := by
  simp only [sortN, List.mem_map, List.mem_mergeSort]
  constructor
  · rintro ⟨x, ⟨y, hy, rfl⟩, rfl⟩
    rwa [lb_bl]
  · intro h
    exact ⟨bl n, ⟨n, h, rfl⟩, lb_bl n⟩

/-- A file in place, as a crash leaves it. -/
theorem crash_step {σ : Heap} {d : SD} {n : ByteArray} {f : FD} (h : St σ .rw d) (hf : d.get n = some f) (more : Nat) :
    ∃ σ1 σ2 d', σ.store f.p 0 [.slice f.sl.b f.sl.o (crashN more f.fil) 1] = some σ1 ∧ slice? (σ1.cell? f.p 0) 1 = some (f.sl.b, f.sl.o, crashN more f.fil) ∧ σ1.store f.p (0 + 1) [.int .i64 (crashN more f.fil : Int)] = some σ2 ∧
      St σ2 .rw d' ∧ Fr σ d σ2 d' ∧ d'.sto = { d.sto with fs := crash1 more n d.sto.fs } ∧ (∀ m, (∃ g, d.get m = some g) → ∃ g, d'.get m = some g) := by
  obtain ⟨hfm, hfn⟩ := getK_mem (k := FD.name) hf
  have g := h.file f hfm
  have hlt := g.lt
  have hsu := g.sure
  have hle : crashN more f.fil ≤ f.data.length := by simp only [crashN, FD.fil]; omega
  obtain ⟨q1, q2⟩ := h.headFile hf hle (Nat.le_refl _)
  have r1 : (σ.set f.p (.row (f.row.set 0 (.slice f.sl.b f.sl.o (crashN more f.fil) 1)) .rw))[f.p]? = some (.row [.slice f.sl.b f.sl.o (crashN more f.fil) 1, .int .i64 (f.sure : Int)] .rw) := by simp [hlt, FD.row]
  refine ⟨_, _, _, store_file g.row 0 _ (by omega), ?_, ?_, q1, q2, ?_, ?_⟩
  · unfold Heap.cell?; rw [row?_of r1 (by simp)]; simp [slice?]
  · unfold Heap.store
    rw [r1]
    simp only [List.length_cons, List.length_nil, overwrite, List.set_cons_succ, List.set_cons_zero, List.set_set]
    rw [if_pos (by omega)]
  · simp only [SD.sto, crash1]
    have : getK Fil.name n (d.fs.map FD.fil) = some f.fil := by rw [getK_map (k := FD.name) (k' := Fil.name) (g := FD.fil) (fun _ => rfl)]; unfold SD.get at hf; rw [hf]; rfl
    rw [this]
    rw [← putK_map (k := FD.name) (k' := Fil.name) (g := FD.fil) (fun _ => rfl)]
    rfl
  · intro m ⟨g1, hg1⟩
    show ∃ g, getK FD.name m (putK FD.name _ d.fs) = some g
    rw [getK_put]
    split
    · exact ⟨_, rfl⟩
    · exact ⟨g1, hg1⟩
noncomputable def c_file_Store_Crash : C_file_Store_Crash := { file_Store_Names := w_file_Store_Names }
theorem str_cell {s : Sl} {σ : Heap} {l : List ByteArray} (h : s.Is eStr σ l) {i : Nat} {x : ByteArray} (hi : l[i]? = some x) : ∃ b, s.b = some b ∧ σ.cell? b (s.o + i * 1) = some (.str x) := by
  obtain ⟨b, h1, h2⟩ := h.cell hi
  exact ⟨b, h1, h2 0 (by decide)⟩
theorem i64_cell {s : Sl} {σ : Heap} {l : List Int} (h : s.Is eI64 σ l) {i : Nat} {x : Int} (hi : l[i]? = some x) : ∃ b, s.b = some b ∧ σ.cell? b (s.o + i * 1) = some (.int .i64 x) := by
  obtain ⟨b, h1, h2⟩ := h.cell hi
  exact ⟨b, h1, h2 0 (by decide)⟩
/-- A slice that the store does not touch. -/
theorem is_fr {α : Type} {E : El α} {s : Sl} {σ σ' : Heap} {d d' : SD} {xs : List α} (h : s.Is E σ xs) (k : Fr σ d σ' d') (hout : ∀ c, s.b = some c → c ∉ d.foot) : s.Is E σ' xs ∧ ∀ c, s.b = some c → c ∉ d'.foot :=
  ⟨h.of_row fun c cs hc hrow => by rw [row?_congr (k.at_ c (row?_lt hrow) (hout c hc))]; exact hrow, fun c hc hm => by
    rcases k.foot c hm with h1 | h1
    · exact hout c hc h1
    · have := h.lt hc; omega⟩
theorem crash_loop {L : Nat} {keep names : Sl} {ks : List Int} {ns : List ByteArray} :
    ∀ (ms : List ByteArray) (i m : Nat) (σ : Heap) (d : SD), i + ms.length = ns.length → ns.drop i = ms → ms.length < m → ns.length ≤ 1000000 → St σ .rw d → names.Is eStr σ ns → (∀ c, names.b = some c → c ∉ d.foot) → keep.Is eI64 σ ks → (∀ c, keep.b = some c → c ∉ d.foot) → (∀ n ∈ ms, ∃ f, d.get n = some f) →
      ∃ σ' d', file_Store_Crash_L1 (R := AVal × Heap) c_file_Store_Crash L m (some (d.s, 0)) keep names (ns.length : Int) (i : Int) σ (fun v σ => some (v, σ)) = some (.tuple [], σ') ∧ St σ' .rw d' ∧ Fr σ d σ' d' ∧ d'.sto = { d.sto with fs := crashGo ks ms i d.sto.fs, down := false, armed := false }
  | ms, i, 0, σ, d, _, _, h, _, _, _, _, _, _, _ => by omega
  | [], i, m + 1, σ, d, hi, _, _, _, h, _, _, _, _, _ => by
    simp only [List.length_nil, Nat.add_zero] at hi
    subst hi
    have e4 := store_head h (0 + 4) (.bool false) (by omega)
    obtain ⟨k1, k2⟩ := h.setHead d.armed d.left false
    have e0 : σ.set d.s (.row (d.head.set (0 + 4) (.bool false)) .rw) = σ.set d.s (.row ({ d with armed := d.armed, left := d.left, down := false } : SD).head .rw) := rfl
    rw [e0] at e4
    generalize σ.set d.s (.row ({ d with armed := d.armed, left := d.left, down := false } : SD).head .rw) = σ1 at k1 k2 e4
    have e5 := store_head k1 (0 + 2) (.bool false) (by omega)
    obtain ⟨k3, k4⟩ := k1.setHead false d.left false
    dsimp only at e5
    refine ⟨_, _, ?_, k3, k2.trans k4, rfl⟩
    rw [file_Store_Crash_L1_eq, show decide (((ns.length : Nat) : Int) < ((ns.length : Nat) : Int)) = false by simp, cond_false, Option.bind_some]
    dsimp only
    rw [e4, Option.bind_some, Option.bind_some]
    dsimp only
    rw [e5, Option.bind_some]
    rfl
  | n :: ms, i, m + 1, σ, d, hi, hd, hm, hl, h, hN, hNo, hK, hKo, hg => by
    simp only [List.length_cons] at hi hm
    have hni : ns[i]? = some n := by have := congrArg (fun l : List ByteArray => l[0]?) hd; simpa using this
    have hd' : ns.drop (i + 1) = ms := by have := congrArg List.tail hd; simpa [List.tail_drop] using this
    obtain ⟨f, hf⟩ := hg n List.mem_cons_self
    obtain ⟨b, hb, hc⟩ := str_cell hN hni
    have hsm := h.sz
    have hfm := (getK_mem (k := FD.name) hf).1
    have g := h.file f hfm
    have hsu := g.sure
    have hfl := usedF_mem hfm
    have hilt : i < ns.length := by omega
    obtain ⟨σ1, σ2, d', t1, t2, t3, t4, t5, t6, t7⟩ := crash_step h hf (keepAt ks i)
    obtain ⟨hN', hNo'⟩ := is_fr hN t5 hNo
    obtain ⟨hK', hKo'⟩ := is_fr hK t5 hKo
    obtain ⟨σ', d2, r1, r2, r3, r4⟩ := crash_loop (L := L) ms (i + 1) m σ2 d' (by omega) hd' (by omega) hl t4 hN' hNo' hK' hKo' (fun x hx => t7 x (hg x (List.mem_cons_of_mem _ hx)))
    rw [t5.s] at r1
    refine ⟨σ', d2, ?_, r2, t5.trans r3, by rw [r4, t6]; rfl⟩
    rw [file_Store_Crash_L1_eq, show decide ((i : Int) < ((ns.length : Nat) : Int)) = true by simpa using hilt, cond_true, hN.n, show decide ((i : Int) < ((ns.length : Nat) : Int)) = true by simpa using hilt, dec0, Bool.and_true, cond_true, hb, Option.bind_some, show ((i : Nat) : Int).toNat = i from rfl, hc]
    simp only [str?, Option.bind_some]
    rw [h.c0 trivial, Option.bind_some, h.look trivial, Option.bind_some, ptr_ptrOf, Option.bind_some, hf]
    simp only [ptOf, Option.bind_some]
    rw [hK.n]
    have hw : IntKind.i64.wrap ((i : Int) + 1) = ((i + 1 : Nat) : Int) := wrap_i64_succ i (by omega)
    have hlen : IntKind.i64.wrap ((f.sl.n : Int) - (f.sure : Int)) = ((f.data.length - f.sure : Nat) : Int) := by
      rw [g.n, wrap_i64_of (by omega) (by omega)]; omega
    have fin : ∀ (x : Int), (if 0 > x then 0 else x) = (keepAt ks i : Int) →
        IntKind.i64.wrap ((f.sure : Int) + (if ((f.data.length - f.sure : Nat) : Int) < (if 0 > x then 0 else x) then ((f.data.length - f.sure : Nat) : Int) else (if 0 > x then 0 else x))) = (crashN (keepAt ks i) f.fil : Int) := fun x hx => by
      rw [hx]
      have hn : crashN (keepAt ks i) f.fil = f.sure + min (keepAt ks i) (f.data.length - f.sure) := rfl
      rw [hn]
      have : (if ((f.data.length - f.sure : Nat) : Int) < (keepAt ks i : Int) then ((f.data.length - f.sure : Nat) : Int) else (keepAt ks i : Int)) = ((min (keepAt ks i) (f.data.length - f.sure) : Nat) : Int) := by split <;> omega
      rw [this, wrap_i64_of (by omega) (by omega)]
      omega
    have hcl : crashN (keepAt ks i) f.fil ≤ f.data.length := by
      have hn : crashN (keepAt ks i) f.fil = f.sure + min (keepAt ks i) (f.data.length - f.sure) := rfl
      omega
    have hdec : (decide ((0 : Int) ≤ (crashN (keepAt ks i) f.fil : Int)) && decide ((crashN (keepAt ks i) f.fil : Int) ≤ (f.sl.n : Int))) = true := by
      rw [g.n]; simp; omega
    have tn : ((crashN (keepAt ks i) f.fil : Nat) : Int).toNat = crashN (keepAt ks i) f.fil := rfl
    by_cases hki : i < ks.length
    · obtain ⟨x, hx⟩ : ∃ x, ks[i]? = some x := ⟨ks[i], List.getElem?_eq_getElem hki⟩
      obtain ⟨kb, hkb, hkc⟩ := i64_cell hK hx
      rw [show decide ((i : Int) < ((ks.length : Nat) : Int)) = true by simpa using hki, cond_true, Bool.and_true, cond_true, hkb, Option.bind_some, hkc]
      have hkx : (if 0 > x then 0 else x) = (keepAt ks i : Int) := by
        unfold keepAt; rw [List.getD, hx]; simp only [Option.getD_some]; split <;> omega
      rw [show int? (some (AVal.int .i64 x)) .i64 = some x from rfl, Option.bind_some, g.c0 trivial, Option.bind_some, g.c1 trivial, Option.bind_some, Option.bind_some, Option.bind_some]
      dsimp only
      rw [hlen, fin x hkx, hdec, cond_true, tn, t1, Option.bind_some, t2, Option.bind_some, t3, Option.bind_some, hw]
      exact r1
    · have hk0 : keepAt ks i = 0 := by unfold keepAt; rw [List.getD, List.getElem?_eq_none (by omega)]; rfl
      rw [show decide ((i : Int) < ((ks.length : Nat) : Int)) = false by simpa using hki, cond_false]
      rw [g.c0 trivial, Option.bind_some, g.c1 trivial, Option.bind_some, Option.bind_some, Option.bind_some]
      dsimp only
      have e0 : ∀ z : Int, (if z < 0 then z else 0) = (if z < (if (0 : Int) > 0 then 0 else 0) then z else (if (0 : Int) > 0 then 0 else 0)) := fun z => by simp
      rw [hlen, e0, fin 0 (by rw [hk0]; rfl), hdec, cond_true, tn, t1, Option.bind_some, t2, Option.bind_some, t3, Option.bind_some, hw]
      exact r1
open Classical in
noncomputable def readI (σ : Heap) (b : Sl) : Option (List Int) := if h : ∃ xs, b.Is eI64 σ xs then some h.choose else none
theorem readI_eq {σ : Heap} {b : Sl} {xs : List Int} (h : b.Is eI64 σ xs) : readI σ b = some xs := by
  unfold readI
  have h' : ∃ xs, b.Is eI64 σ xs := ⟨xs, h⟩
  rw [dif_pos h', h'.choose_spec.uniq (by decide) h]
noncomputable def w_file_Store_Crash (s : Pt) (keep : Sl) (σ : Heap) : Option (Unit × Heap) := stRel 17 [.ptr s, .slice keep.b keep.o keep.n 1] tVoid.av s (fun t => (readI σ keep).map fun ks => ((), t.crash ks)) σ
theorem ok_file_Store_Crash : Ok_file_Store_Crash w_file_Store_Crash := fun _ _ _ _ _ h => stRel_ok h
theorem w_file_Store_Crash_ex {σ : Heap} {d : SD} (h : St σ .rw d) {keep : Sl} {ks : List Int} (hK : keep.Is eI64 σ ks) (hKo : ∀ c, keep.b = some c → c ∉ d.foot) :
    ∃ σ' d', w_file_Store_Crash (some (d.s, 0)) keep σ = some ((), σ') ∧ St σ' .rw d' ∧ Fr σ d σ' d' ∧ d'.sto = d.sto.crash ks := by
  refine stRel_ex (op := fun t => (readI σ keep).map fun ks => ((), t.crash ks)) (r := ((), d.sto.crash ks)) h (by simp only [readI_eq hK, Option.map_some]) ?_
  have p1 : c_file_Store_Crash.file_Store_Names = w_file_Store_Names := rfl
  have hsm := h.sz
  have hnl : (namesD d).length = d.fs.length := by simp [namesD, sortN]
  have A := fresh_own eStr σ d.fs.isEmpty (namesD d) (fun he => List.eq_nil_of_length_eq_zero (by rw [hnl]; simpa using he))
  have AP := fresh_pre eStr σ d.fs.isEmpty (namesD d)
  have AN := fresh_new eStr σ d.fs.isEmpty (namesD d)
  have hr := file_Store_Crash_eq (R := AVal × Heap) c_file_Store_Crash ((namesD d).length + 1) (some (d.s, 0)) keep σ fun v σ => some (v, σ)
  rw [p1, w_file_Store_Names_eq (m := .rw) trivial h, Option.bind_some] at hr
  generalize fresh eStr σ d.fs.isEmpty (namesD d) = q at A AP AN hr
  have h1 := h.pre AP
  obtain ⟨σ', d', r1, r2, r3, r4⟩ := crash_loop (L := (namesD d).length + 1) (keep := keep) (names := q.1) (ks := ks) (ns := namesD d) (namesD d) 0 ((namesD d).length + 1) q.2 d (by simp) rfl (by omega) (by omega) h1 (A.is (by omega)) (fun c hc hm => by have := AN c hc; have := h.foot_lt hm; omega) (hK.pre AP) hKo
    (fun n hn => by
      have hn' : n ∈ d.fs.map FD.name := mem_sortN.1 hn
      obtain ⟨f, hf, rfl⟩ := List.mem_map.1 hn'
      cases hg : d.get f.name with
      | some g => exact ⟨g, rfl⟩
      | none => exact absurd rfl (getK_none.1 hg f hf))
  rw [A.len] at hr
  refine ⟨σ', d', call_ok ok (K_file_Store_Crash c_file_Store_Crash ok_file_Store_Names) (hr.trans r1), r2, (Fr.of_pre AP).trans r3, ?_⟩
  rw [r4, Sto.crash, SD.names_sto]
end Go.Abs.TC
