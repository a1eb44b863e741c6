/-
Contracts: strconv.Itoa, numbers with a blank ahead of each.
Contracts: events that are tamed; how an event is told.
Contracts: a recording's lines, what is told of it.
Contracts: lines to a text, what is told of a recording; the law's own text.
Contracts: what is told of a recording; the law's own text of events.
-/
import Derived.Test.YtnoplfndpemmpaaGreatDoorMRun
import Derived.Test.YtnoplfndpemmpaaGreatDoorMConW
import Derived.Test.YtnoplfndpemmpaaGreatDoorShF
import Derived.Test.YtnoplfndpemmpaaGreatDoorMAd
import Derived.Lib.ItoaLen
import Derived.Lib.ItoaMem
import Derived.Test.YtnoplfndpemmpaaGreatDoorEqE4
import Derived.Test.YtnoplfndpemmpaaGreatDoorEqE5
namespace Go.Abs.TE
open Go Go.Abs Go.Proofs Go.RowKit

/-- The powers of ten lie there. -/
def GP (σ : Heap) : Prop := σ[5]? = some (.row (pows.map fun n => .int .u64 n) .ro)
theorem GP.pre {σ σ' : Heap} (h : GP σ) (hp : σ <+: σ') : GP σ' := (get_pre hp (List.getElem?_eq_some_iff.1 h).1).trans h
theorem gPow : Tryz.prog.globalNamed "internal/strconv.uint64pow10" = some 5 := by kernel_rfl
theorem pow10_ints : Lib.pow10Tab = pows := by decide
theorem globT5 : T.glob 5 = true := by kernel_rfl
theorem pow_tab {ρ : Mp} {σ : Heap} {w : World} (hH : HRel ρ σ w) (hG : GRel T ρ) (hp : GP σ) : Lib.TabIs Tryz.prog w "internal/strconv.uint64pow10" .u64 Lib.pow10Tab := by
  obtain ⟨ty, fr, hc⟩ := glob_ints hH hG globT5 hp rfl
  unfold Lib.TabIs World.var?
  rw [gPow, pow10_ints]
  simp only [Option.bind_some, hc]
def I64 (n : Int) : Prop := -9223372036854775808 ≤ n ∧ n ≤ 9223372036854775807
theorem grow_below (w : World) (k : Nat) (os : Array Obj) : Below w.heap.size w (Go.Sort.grow (w.drewN k) os) :=
  ⟨rfl, rfl, rfl, by show w.heap.size ≤ (w.heap ++ os).size; rw [Array.size_append]; omega, fun j hj => by show (w.heap ++ os)[j]? = w.heap[j]?; exact Array.getElem?_append_left hj⟩
noncomputable def w_strconv_Itoa (n : Int) (σ : Heap) : Option (ByteArray × Heap) := wIf (GP σ ∧ I64 n) (ba (Lib.itoa n), σ)
theorem w_strconv_Itoa_eq {n : Int} {σ : Heap} (h : GP σ) (h2 : I64 n) : w_strconv_Itoa n σ = some (ba (Lib.itoa n), σ) := wIf_eq ⟨h, h2⟩
theorem ok_strconv_Itoa : Ok_strconv_Itoa w_strconv_Itoa := fun n σ v σ' h => by
  obtain ⟨⟨hp, hs⟩, e⟩ := wIf_some h
  injection e with e1 e2
  subst e1; subst e2
  refine call_below fun ρ ws w hH hG hw => ?_
  simp only [VRels, VRel, tInt] at hw
  obtain ⟨u, us, rfl, rfl, rfl⟩ := hw
  refine (Any.strconv_Itoa Tryz.laysM171 n hs.1 hs.2 w (pow_tab hH hG hp)).mono fun e w' ⟨he, k, os, hw⟩ => ?_
  exact ⟨_, he, by simp [tStr, VRel, ba], by rw [hw]; exact grow_below _ k os⟩
/-! ### Numbers with a blank ahead of each -/
def wordsB : List Int → List UInt8
  | [] => []
  | n :: r => 32 :: (Lib.itoa n ++ wordsB r)
theorem wordsB_len : ∀ {ns : List Int}, (∀ n ∈ ns, I64 n) → (wordsB ns).length ≤ 22 * ns.length
  | [], _ => by simp [wordsB]
  | n :: r, h => by
    have h1 := Lib.itoa_length_le n (h n List.mem_cons_self).1 (h n List.mem_cons_self).2
    have h2 := wordsB_len (ns := r) fun m hm => h m (List.mem_cons_of_mem _ hm)
    simp only [wordsB, List.length_cons, List.length_append]
    omega
theorem i64_cell {s : Sl} {σ : Heap} {l : List Int} (h : s.Is eI64 σ l) {i : Nat} {x : Int} (hi : l[i]? = some x) : ∃ b, s.b = some b ∧ σ.cell? b (s.o + i * 1) = some (.int .i64 x) := by
  obtain ⟨b, hb, hc⟩ := h.cell hi
  exact ⟨b, hb, hc 0 (by decide)⟩
theorem b32 : (⟨#[32]⟩ : ByteArray) = ba [32] := rfl
theorem word_step {n : Int} (hn : I64 n) {ys : List UInt8} (hy : ys.length ≤ 100000) :
    (⟨#[32]⟩ : ByteArray).size + (ba (Lib.itoa n)).size ≤ 9223372036854775807 ∧ (ba ys).size + ((⟨#[32]⟩ : ByteArray) ++ ba (Lib.itoa n)).size ≤ 9223372036854775807 ∧ ba ys ++ ((⟨#[32]⟩ : ByteArray) ++ ba (Lib.itoa n)) = ba (ys ++ 32 :: Lib.itoa n) := by
  have h1 := Lib.itoa_length_le n hn.1 hn.2
  rw [b32, ba_append, ba_append, ba_size, ba_size, ba_size, ba_size]
  refine ⟨by simp; omega, by simp; omega, rfl⟩
noncomputable def c_tell_ints : C_tell_ints := ⟨w_strconv_Itoa⟩
theorem ints_loop {R : Type} {L : Nat} {K : AVal → Heap → Option R} {σ : Heap} {l : Sl} {ns : List Int} (hl : l.Is eI64 σ ns) (hp : GP σ) (hn : ∀ n ∈ ns, I64 n) :
    ∀ (d i m : Nat) (ys : List UInt8), i + d = ns.length → d < m → ys.length + 22 * d ≤ 100000 → tell_ints_L3 c_tell_ints L m (ba ys) l (i : Int) σ K = K (.str (ba (ys ++ wordsB (ns.drop i)))) σ
  | d, i, 0, _, _, h, _ => by omega
  | 0, i, m + 1, ys, h, _, _ => by
    rw [tell_ints_L3_eq, hl.n, lt_false (by omega), List.drop_eq_nil_of_le (by omega), wordsB, List.append_nil]
    rfl
  | d + 1, i, m + 1, ys, h, hm, hy => by
    have hi : i < ns.length := by omega
    have hs := hl.small
    have p1 : c_tell_ints.strconv_Itoa = w_strconv_Itoa := rfl
    obtain ⟨b, hb, c0⟩ := i64_cell hl (List.getElem?_eq_getElem hi)
    have hI := hn ns[i] (List.getElem_mem hi)
    obtain ⟨s1, s2, s3⟩ := word_step hI (ys := ys) (by omega)
    have hlen := Lib.itoa_length_le ns[i] hI.1 hI.2
    rw [tell_ints_L3_eq, p1]
    simp only [hl.n, lt_true hi, cond_true, dec0, Bool.and_self, hb, Option.bind_some, Int.toNat_natCast, c0, int?, if_true, w_strconv_Itoa_eq hp hI, wrap_i64_succ i (by omega : i < 9223372036854775807)]
    rw [if_pos s1, if_pos s2, s3, ints_loop hl hp hn d (i + 1) m _ (by omega) (by omega) (by simp; omega), List.drop_eq_getElem_cons hi, wordsB]
    simp
noncomputable def w_tell_ints (l : Sl) (σ : Heap) : Option (ByteArray × Heap) := wOf (fun ns : List Int => l.Is eI64 σ ns ∧ GP σ ∧ (∀ n ∈ ns, I64 n) ∧ ns.length ≤ 1000) fun ns => (ba (wordsB ns), σ)
theorem w_tell_ints_eq {l : Sl} {σ : Heap} {ns : List Int} (hl : l.Is eI64 σ ns) (hp : GP σ) (hn : ∀ n ∈ ns, I64 n) (hs : ns.length ≤ 1000) : w_tell_ints l σ = some (ba (wordsB ns), σ) :=
  wOf_eq (P := fun ns : List Int => l.Is eI64 σ ns ∧ GP σ ∧ (∀ n ∈ ns, I64 n) ∧ ns.length ≤ 1000) (f := fun ns => (ba (wordsB ns), σ)) ⟨hl, hp, hn, hs⟩ fun y hy => by rw [hy.1.uniq (by decide) hl]
theorem ok_tell_ints : Ok_tell_ints w_tell_ints := fun l σ v σ' h => by
  obtain ⟨ns, ⟨hl, hp, hn, hs⟩, e⟩ := wOf_some h
  injection e with e1 e2
  subst e1; subst e2
  refine call_ok ok (K_tell_ints c_tell_ints ok_strconv_Itoa) (L := ns.length + 1) (n := 2) ((tell_ints_eq c_tell_ints (ns.length + 1) l σ _).trans ?_)
  have := ints_loop (R := AVal × Heap) (L := ns.length + 1) (K := fun v σ => some (v, σ)) hl hp hn ns.length 0 (ns.length + 1) [] (by omega) (by omega) (by simp; omega)
  rw [List.drop_zero, List.nil_append] at this
  exact this
noncomputable def c_law26_words : C_law26_words := ⟨w_strconv_Itoa⟩
theorem words_loop {R : Type} {L : Nat} {K : AVal → Heap → Option R} {σ : Heap} {l : Sl} {ns : List Int} (hl : l.Is eI64 σ ns) (hp : GP σ) (hn : ∀ n ∈ ns, I64 n) :
    ∀ (d i m : Nat) (ys : List UInt8), i + d = ns.length → d < m → ys.length + 22 * d ≤ 100000 → law26_words_L3 c_law26_words L m (ba ys) l (i : Int) σ K = K (.str (ba (ys ++ wordsB (ns.drop i)))) σ
  | d, i, 0, _, _, h, _ => by omega
  | 0, i, m + 1, ys, h, _, _ => by
    rw [law26_words_L3_eq, hl.n, lt_false (by omega), List.drop_eq_nil_of_le (by omega), wordsB, List.append_nil]
    rfl
  | d + 1, i, m + 1, ys, h, hm, hy => by
    have hi : i < ns.length := by omega
    have hs := hl.small
    have p1 : c_law26_words.strconv_Itoa = w_strconv_Itoa := rfl
    obtain ⟨b, hb, c0⟩ := i64_cell hl (List.getElem?_eq_getElem hi)
    have hI := hn ns[i] (List.getElem_mem hi)
    obtain ⟨s1, s2, s3⟩ := word_step hI (ys := ys) (by omega)
    have hlen := Lib.itoa_length_le ns[i] hI.1 hI.2
    rw [law26_words_L3_eq, p1]
    simp only [hl.n, lt_true hi, cond_true, dec0, Bool.and_self, hb, Option.bind_some, Int.toNat_natCast, c0, int?, if_true, w_strconv_Itoa_eq hp hI, wrap_i64_succ i (by omega : i < 9223372036854775807)]
    rw [if_pos s1, if_pos s2, s3, words_loop hl hp hn d (i + 1) m _ (by omega) (by omega) (by simp; omega), List.drop_eq_getElem_cons hi, wordsB]
    simp
noncomputable def w_law26_words (l : Sl) (σ : Heap) : Option (ByteArray × Heap) := wOf (fun ns : List Int => l.Is eI64 σ ns ∧ GP σ ∧ (∀ n ∈ ns, I64 n) ∧ ns.length ≤ 1000) fun ns => (ba (wordsB ns), σ)
theorem w_law26_words_eq {l : Sl} {σ : Heap} {ns : List Int} (hl : l.Is eI64 σ ns) (hp : GP σ) (hn : ∀ n ∈ ns, I64 n) (hs : ns.length ≤ 1000) : w_law26_words l σ = some (ba (wordsB ns), σ) :=
  wOf_eq (P := fun ns : List Int => l.Is eI64 σ ns ∧ GP σ ∧ (∀ n ∈ ns, I64 n) ∧ ns.length ≤ 1000) (f := fun ns => (ba (wordsB ns), σ)) ⟨hl, hp, hn, hs⟩ fun y hy => by rw [hy.1.uniq (by decide) hl]
theorem ok_law26_words : Ok_law26_words w_law26_words := fun l σ v σ' h => by
  obtain ⟨ns, ⟨hl, hp, hn, hs⟩, e⟩ := wOf_some h
  injection e with e1 e2
  subst e1; subst e2
  refine call_ok ok (K_law26_words c_law26_words ok_strconv_Itoa) (L := ns.length + 1) (n := 2) ((law26_words_eq c_law26_words (ns.length + 1) l σ _).trans ?_)
  have := words_loop (R := AVal × Heap) (L := ns.length + 1) (K := fun v σ => some (v, σ)) hl hp hn ns.length 0 (ns.length + 1) [] (by omega) (by omega) (by simp; omega)
  rw [List.drop_zero, List.nil_append] at this
  exact this
end Go.Abs.TE
namespace Go.Abs.TE
open Go Go.Abs Go.Proofs
def eEv : El api_Event := ⟨5, api_Event.cells, fun _ => rfl, fun a b h => by
  obtain ⟨t, k, d, w, h1⟩ := a
  obtain ⟨t', k', d', w', h1'⟩ := b
  simp [api_Event.cells] at h
  obtain ⟨rfl, rfl, rfl, rfl, rfl⟩ := h
  rfl⟩
instance : El.Flat eEv := ⟨fun _ => rfl⟩
theorem ev_cells {s : Sl} {σ : Heap} {l : List api_Event} (h : s.Is eEv σ l) {i : Nat} {x : api_Event} (hi : l[i]? = some x) : ∃ b, s.b = some b ∧ σ.cell? b (s.o + i * 5) = some (.int .i64 x.Time) ∧ σ.cell? b (s.o + i * 5 + 1) = some (.int .i64 x.Kind) ∧
    σ.cell? b (s.o + i * 5 + 2) = some (.str x.Data) ∧ σ.cell? b (s.o + i * 5 + 3) = some (.int .i64 x.W) ∧ σ.cell? b (s.o + i * 5 + 4) = some (.int .i64 x.H) := by
  obtain ⟨b, hb, hc⟩ := h.cell hi
  exact ⟨b, hb, hc 0 (by decide), hc 1 (by decide), hc 2 (by decide), hc 3 (by decide), hc 4 (by decide)⟩
/-! ### Tame -/
def msk (x m : Int) : Int := IntKind.i64.wrap (BitVec.ofInt IntKind.i64.bits x &&& BitVec.ofInt IntKind.i64.bits m).toNat
def cut (s : ByteArray) : ByteArray := if s.size > 400 then s.extract 0 400 else s
def tameE (t : Int) (e : api_Event) : api_Event :=
  if msk e.Kind 3 = 2 then ⟨t, msk e.Kind 3, ⟨#[]⟩, IntKind.i64.wrap (msk e.W 127 + 1), IntKind.i64.wrap (msk e.H 127 + 1)⟩
  else ⟨t, msk e.Kind 3, cut e.Data, 0, 0⟩
def tameEv : Int → List api_Event → List api_Event
  | _, [] => []
  | t, e :: es => tameE (IntKind.i64.wrap (t + msk e.Time 65535)) e :: tameEv (IntKind.i64.wrap (t + msk e.Time 65535)) es
theorem tameEv_len : ∀ (es : List api_Event) (t : Int), (tameEv t es).length = es.length
  | [], _ => rfl
  | _ :: es, t => by simp [tameEv, tameEv_len es]
theorem cut_size (s : ByteArray) : (cut s).size ≤ 400 := by
  unfold cut
  split
  · rw [ByteArray.size_extract]; omega
  · omega
/-- Numbers of the kind, a text that is short. -/
structure EvFit (e : api_Event) : Prop where
  t : I64 e.Time
  k : I64 e.Kind
  d : e.Data.size ≤ 400
  w : I64 e.W
  h : I64 e.H
theorem wrap_I64 (n : Int) : I64 (IntKind.i64.wrap n) := by
  rw [IntKind.wrap_i64]
  constructor <;> omega
theorem tameE_fit {t : Int} (ht : I64 t) (e : api_Event) : EvFit (tameE t e) := by
  have h0 : I64 0 := by constructor <;> omega
  unfold tameE
  split
  · exact ⟨ht, wrap_I64 _, Nat.zero_le _, wrap_I64 _, wrap_I64 _⟩
  · exact ⟨ht, wrap_I64 _, cut_size _, h0, h0⟩
theorem tameEv_fit : ∀ (es : List api_Event) (t : Int), ∀ e ∈ tameEv t es, EvFit e
  | [], _, _, h => by cases h
  | x :: es, t, e, he => by
    rw [tameEv, List.mem_cons] at he
    rcases he with rfl | he
    · exact tameE_fit (wrap_I64 _) x
    · exact tameEv_fit es _ e he
theorem Tame_loop {R : Type} {L : Nat} {l : Sl} {σ0 : Heap} {K : AVal → Heap → Option R} {es : List api_Event} (hl : l.Is eEv σ0 es) (hn : es.length ≤ 1000) :
    ∀ (m i : Nat) (t : Int) (out : Sl) (σ : Heap) (ys : List api_Event), es.length - i < m → i ≤ es.length → ys.length = i → Mine eEv σ0 out σ ys → (ys = [] → out.b = none) →
      ∃ σ' out', Mine eEv σ0 out' σ' (ys ++ tameEv t (es.drop i)) ∧ (ys ++ tameEv t (es.drop i) = [] → out'.b = none) ∧ ref12_Tame_L4 L m l out t (i : Int) σ K = K (.slice out'.b out'.o out'.n 5) σ'
  | 0, _, _, _, _, _, h, _, _, _, _ => by omega
  | m + 1, i, t, out, σ, ys, hm, hi, hy, hM, h0 => by
    rw [ref12_Tame_L4_eq, hl.n]
    by_cases h : i < es.length
    · have hdrop : es.drop i = es[i] :: es.drop (i + 1) := List.drop_eq_getElem_cons h
      obtain ⟨lb, hb, c0, c1, c2, c3, c4⟩ := ev_cells (hl.pre hM.pre) (List.getElem?_eq_getElem h)
      generalize es[i] = e at hdrop c0 c1 c2 c3 c4
      have hnext : IntKind.i64.wrap ((i : Int) + 1) = ((i + 1 : Nat) : Int) := wrap_i64_succ i (by omega)
      have step : ∀ e', tameE (IntKind.i64.wrap (t + msk e.Time 65535)) e = e' → ∃ σ' out', Mine eEv σ0 out' σ' (ys ++ tameEv t (es.drop i)) ∧ (ys ++ tameEv t (es.drop i) = [] → out'.b = none) ∧ ((Heap.append σ out.b out.o out.n 5 48 (eEv.en e') 1).bind fun q => ref12_Tame_L4 L m l ⟨q.1.1, q.1.2.1, q.1.2.2⟩ (IntKind.i64.wrap (t + msk e.Time 65535)) ((i + 1 : Nat) : Int) q.2 K) = K (.slice out'.b out'.o out'.n 5) σ' := fun e' he' => by
        obtain ⟨q, σ1, a1, a2⟩ := hM.append (zs := [e']) (bytes := 48) (vs := eEv.en e') (k := 1) (by rw [El.all_cons, El.all_nil, List.append_nil]) rfl (by simp only [List.length_singleton]; omega) (by simp only [List.length_singleton]; omega)
        obtain ⟨σ2, out2, r1, r0, r2⟩ := Tame_loop (L := L) (K := K) hl hn m (i + 1) (IntKind.i64.wrap (t + msk e.Time 65535)) _ _ _ (by omega) (by omega) (by rw [List.length_append, hy]; rfl) a2 (fun e => by simp at e)
        refine ⟨σ2, out2, ?_, fun e => by rw [hdrop, tameEv] at e; simp at e, ?_⟩
        · rw [hdrop, tameEv, he']
          rw [List.append_assoc] at r1
          exact r1
        · rw [show Heap.append σ out.b out.o out.n 5 48 (eEv.en e') 1 = some (q, σ1) from a1, Option.bind_some]
          exact r2
      rw [lt_true h, cond_true, dec0, Bool.true_and, cond_true, hb, Option.bind_some, Int.toNat_natCast, c0, c1, c2, c3, c4]
      simp only [int?, str?, Option.bind_some, if_true, hnext]
      by_cases hs : e.Data.size > 400
      · rw [decide_eq_true (show (e.Data.size : Int) > 400 by omega), cond_true, decide_eq_true (show (400 : Int) ≤ (e.Data.size : Int) by omega), cond_true]
        by_cases hk : msk e.Kind 3 = 2
        · obtain ⟨σ', out', g1, g0, g2⟩ := step _ (by unfold tameE; rw [if_pos hk])
          exact ⟨σ', out', g1, g0, by rw [show ((IntKind.i64.wrap (BitVec.ofInt IntKind.i64.bits e.Kind &&& BitVec.ofInt IntKind.i64.bits 3).toNat) == 2) = true from beq_iff_eq.2 hk, cond_true]; exact g2⟩
        · obtain ⟨σ', out', g1, g0, g2⟩ := step _ (by unfold tameE; rw [if_neg hk, cut, if_pos hs])
          exact ⟨σ', out', g1, g0, by rw [show ((IntKind.i64.wrap (BitVec.ofInt IntKind.i64.bits e.Kind &&& BitVec.ofInt IntKind.i64.bits 3).toNat) == 2) = false from beq_eq_false_iff_ne.2 hk, cond_false]; exact g2⟩
      · rw [decide_eq_false (show ¬ (e.Data.size : Int) > 400 by omega), cond_false]
        by_cases hk : msk e.Kind 3 = 2
        · obtain ⟨σ', out', g1, g0, g2⟩ := step _ (by unfold tameE; rw [if_pos hk])
          exact ⟨σ', out', g1, g0, by rw [show ((IntKind.i64.wrap (BitVec.ofInt IntKind.i64.bits e.Kind &&& BitVec.ofInt IntKind.i64.bits 3).toNat) == 2) = true from beq_iff_eq.2 hk, cond_true]; exact g2⟩
        · obtain ⟨σ', out', g1, g0, g2⟩ := step _ (by unfold tameE; rw [if_neg hk, cut, if_neg hs])
          exact ⟨σ', out', g1, g0, by rw [show ((IntKind.i64.wrap (BitVec.ofInt IntKind.i64.bits e.Kind &&& BitVec.ofInt IntKind.i64.bits 3).toNat) == 2) = false from beq_eq_false_iff_ne.2 hk, cond_false]; exact g2⟩
    · refine ⟨σ, out, ?_, ?_, by rw [lt_false h, cond_false]⟩
      · rw [List.drop_of_length_le (by omega), tameEv, List.append_nil]
        exact hM
      · rw [List.drop_of_length_le (by omega), tameEv, List.append_nil]
        exact h0
noncomputable def w_ref12_Tame (l : Sl) (σ : Heap) : Option (Sl × Heap) := wOf (fun es : List api_Event => l.Is eEv σ es ∧ es.length ≤ 1000) fun es => fresh eEv σ (tameEv 0 es).isEmpty (tameEv 0 es)
theorem w_ref12_Tame_eq {l : Sl} {σ : Heap} {es : List api_Event} (h : l.Is eEv σ es) (hn : es.length ≤ 1000) : w_ref12_Tame l σ = some (fresh eEv σ (tameEv 0 es).isEmpty (tameEv 0 es)) := wOf_eq (P := fun es : List api_Event => l.Is eEv σ es ∧ es.length ≤ 1000) (f := fun es => fresh eEv σ (tameEv 0 es).isEmpty (tameEv 0 es)) ⟨h, hn⟩ fun es' h' => by rw [h'.1.uniq (by decide) h]
theorem ok_ref12_Tame : Ok_ref12_Tame w_ref12_Tame := fun l σ v σ' hx => by
  obtain ⟨es, ⟨hl, hn⟩, e⟩ := wOf_some hx
  obtain ⟨rfl, rfl⟩ : v = (fresh eEv σ (tameEv 0 es).isEmpty (tameEv 0 es)).1 ∧ σ' = (fresh eEv σ (tameEv 0 es).isEmpty (tameEv 0 es)).2 := by rw [e]; exact ⟨rfl, rfl⟩
  obtain ⟨σ1, out, g1, g0, g2⟩ := Tame_loop (R := AVal × Heap) (L := 1001) (K := fun v σ => some (v, σ)) hl hn 1001 0 0 ⟨none, 0, 0⟩ σ [] (by omega) (by omega) rfl (Mine.start σ) (fun _ => rfl)
  rw [List.drop_zero, List.nil_append] at g1 g0
  refine call_mine (out := out) (call_ok ok known0_ok (L := 1001) (n := 2) (σ' := σ1) ((ref12_Tame_eq 1001 l σ _).trans g2)) g1 ?_
  cases hd : tameEv 0 es with
  | nil => rw [g0 hd]; rfl
  | cons y r => rw [Own.some_of_ne g1.own (by rw [hd]; simp)]; rfl
noncomputable def c_law13_Plan_Tame : C_law13_Plan_Tame := ⟨w_ref12_Tame⟩
noncomputable def w_law13_Plan_Tame (p : law13_Plan) (σ : Heap) : Option (Sl × Heap) := w_ref12_Tame p.Events σ
theorem ok_law13_Plan_Tame : Ok_law13_Plan_Tame w_law13_Plan_Tame := fun p σ v σ' h => by
  have p1 : c_law13_Plan_Tame.ref12_Tame = w_ref12_Tame := rfl
  refine call_ok ok (K_law13_Plan_Tame c_law13_Plan_Tame ok_ref12_Tame) (L := 0) (n := 2) ((law13_Plan_Tame_eq c_law13_Plan_Tame 0 p σ _).trans ?_)
  have h' : w_ref12_Tame p.Events σ = some (v, σ') := h
  rw [p1, h', Option.bind_some]
  rfl
def w_law13_Plan_Few (p : law13_Plan) (σ : Heap) : Option (Bool × Heap) := some (decide ((p.Events.n : Int) ≤ 40) && decide ((p.Marks.n : Int) ≤ 60), σ)
theorem ok_law13_Plan_Few : Ok_law13_Plan_Few w_law13_Plan_Few := fun p σ v σ' h => by
  injection h with h; injection h with h1 h2; subst h1; subst h2
  refine call_ok ok known0_ok (L := 0) (n := 2) ((law13_Plan_Few_eq 0 p σ _).trans ?_)
  cases decide ((p.Events.n : Int) ≤ 40) <;> rfl
/-! ### How an event is told -/
def evWord : List UInt8 := [101, 118, 101, 110, 116]
def eventB (e : api_Event) : List UInt8 := evWord ++ wordsB [e.Time, e.Kind] ++ (if e.Kind = 2 then wordsB [e.W, e.H] else 32 :: quoteB e.Data)
def eventsB : List api_Event → List UInt8
  | [] => []
  | e :: r => eventB e ++ (10 :: eventsB r)
theorem quoteB_len (s : ByteArray) : (quoteB s).length ≤ 6 * s.size + 2 := by
  unfold quoteB
  have h1 := flat_len (rsN s s.size 0)
  have h2 := rsN_len s s.size 0
  simp only [List.length_cons, List.length_append, List.length_nil]
  omega
theorem eventB_len {e : api_Event} (h : EvFit e) : (eventB e).length ≤ 3000 := by
  have h1 := wordsB_len (ns := [e.Time, e.Kind]) (fun n hn => by rcases List.mem_cons.1 hn with e | hn <;> first | exact e ▸ h.t | exact (List.mem_singleton.1 hn) ▸ h.k)
  have h2 := wordsB_len (ns := [e.W, e.H]) (fun n hn => by rcases List.mem_cons.1 hn with e | hn <;> first | exact e ▸ h.w | exact (List.mem_singleton.1 hn) ▸ h.h)
  have h3 := quoteB_len e.Data
  have h4 := h.d
  unfold eventB evWord
  split
  · simp only [List.length_append, List.length_cons, List.length_nil] at *; omega
  · simp only [List.length_append, List.length_cons, List.length_nil] at *; omega
theorem eventsB_len : ∀ {l : List api_Event}, (∀ e ∈ l, EvFit e) → (eventsB l).length ≤ 3001 * l.length
  | [], _ => by simp [eventsB]
  | e :: r, h => by
    have h1 := eventB_len (h e List.mem_cons_self)
    have h2 := eventsB_len (l := r) fun q hq => h q (List.mem_cons_of_mem _ hq)
    simp only [eventsB, List.length_append, List.length_cons]
    omega
/-! #### no line ends within -/
theorem encB_no10 {n : Nat} (h : n ≠ 10) (hv : Utf8.valid (n : Int) = true) : (10 : UInt8) ∉ encB n := by
  have hb : ∀ m : Nat, m < 256 → m ≠ 10 → UInt8.ofNat m ≠ 10 := fun m hm h10 e => by
    have := congrArg UInt8.toNat e
    rw [ofNat_toNat hm] at this
    exact h10 this
  have hv' := valid_iff.1 hv
  rcases Nat.lt_or_ge n 128 with h1 | h1
  · rw [enc1 h1, List.mem_singleton]
    exact fun e => hb n (by omega) h e.symm
  rcases Nat.lt_or_ge n 2048 with h2 | h2
  · rw [enc2 h1 h2]
    simp only [List.mem_cons, List.not_mem_nil, or_false, not_or]
    exact ⟨fun e => hb _ (by omega) (by omega) e.symm, fun e => hb _ (by omega) (by omega) e.symm⟩
  rcases Nat.lt_or_ge n 65536 with h3 | h3
  · rw [enc3 h2 h3 hv]
    simp only [List.mem_cons, List.not_mem_nil, or_false, not_or]
    exact ⟨fun e => hb _ (by omega) (by omega) e.symm, fun e => hb _ (by omega) (by omega) e.symm, fun e => hb _ (by omega) (by omega) e.symm⟩
  · rw [enc4 h3 hv]
    simp only [List.mem_cons, List.not_mem_nil, or_false, not_or]
    exact ⟨fun e => hb _ (by omega) (by omega) e.symm, fun e => hb _ (by omega) (by omega) e.symm, fun e => hb _ (by omega) (by omega) e.symm, fun e => hb _ (by omega) (by omega) e.symm⟩
theorem hexd_no10 {k : Nat} (h : k < 16) : hexd k ≠ 10 := fun e => by
  have := congrArg UInt8.toNat e
  unfold hexd at this
  rw [ofNat_toNat (by split <;> omega)] at this
  have h10 : (10 : UInt8).toNat = 10 := rfl
  rw [h10] at this
  split at this <;> omega
theorem signB_no10 {n : Nat} (hv : Utf8.valid (n : Int) = true) : (10 : UInt8) ∉ signB n := by
  unfold signB
  split
  · rename_i h
    rcases h with rfl | rfl <;> decide
  · split
    · decide
    · split
      · decide
      · split
        · rename_i h
          have h1 : hexd (n / 16) ≠ 10 := hexd_no10 (by omega)
          have h2 : hexd (n % 16) ≠ 10 := hexd_no10 (by omega)
          simp only [List.mem_cons, List.not_mem_nil, or_false, not_or]
          exact ⟨by decide, by decide, by decide, by decide, fun e => h1 e.symm, fun e => h2 e.symm⟩
        · exact encB_no10 (by assumption) hv
theorem rsN_valid (s : ByteArray) : ∀ (k i : Nat), ∀ n ∈ rsN s k i, Utf8.valid (n : Int) = true
  | 0, _, n, h => by simp [rsN, runesA] at h
  | k + 1, i, n, h => by
    by_cases hi : i < s.size
    · rw [rsN_step hi, List.mem_cons] at h
      rcases h with rfl | h
      · exact decode_valid s i
      · exact rsN_valid s k _ n h
    · rw [rsN_end hi] at h; cases h
theorem quoteB_no10 (s : ByteArray) : (10 : UInt8) ∉ quoteB s := by
  unfold quoteB
  simp only [List.mem_cons, List.mem_append, List.not_mem_nil, or_false, not_or, List.mem_flatMap]
  exact ⟨by decide, fun ⟨n, hn, h⟩ => signB_no10 (rsN_valid s _ _ n hn) h, by decide⟩
theorem dig_no10 {d : Nat} (h : d < 10) : (10 : UInt8) ≠ UInt8.ofNat (48 + d) := fun e => by
  have := congrArg UInt8.toNat e
  rw [ofNat_toNat (show 48 + d < 256 by omega)] at this
  have h10 : (10 : UInt8).toNat = 10 := rfl
  omega
theorem decDigits_no10 (u : Nat) : (10 : UInt8) ∉ Lib.decDigits u := by
  induction u using Nat.strongRecOn with
  | ind u ih =>
    rw [Lib.decDigits]
    split
    · rename_i h
      rw [List.mem_singleton]
      exact dig_no10 h
    · rename_i h
      rw [List.mem_append, List.mem_singleton, not_or]
      exact ⟨ih (u / 10) (by omega), dig_no10 (by omega)⟩
theorem itoa_no10 (n : Int) : (10 : UInt8) ∉ Lib.itoa n := by
  unfold Lib.itoa
  split
  · simp only [List.mem_cons, not_or]
    exact ⟨by decide, decDigits_no10 _⟩
  · exact decDigits_no10 _
theorem wordsB_no10 : ∀ ns : List Int, (10 : UInt8) ∉ wordsB ns
  | [] => by simp [wordsB]
  | n :: r => by
    simp only [wordsB, List.mem_cons, List.mem_append, not_or]
    exact ⟨by decide, itoa_no10 n, wordsB_no10 r⟩
theorem eventB_no10 (e : api_Event) : (10 : UInt8) ∉ eventB e := by
  unfold eventB
  simp only [List.mem_append, not_or]
  refine ⟨⟨by decide, wordsB_no10 _⟩, ?_⟩
  split
  · exact wordsB_no10 _
  · simp only [List.mem_cons, not_or]
    exact ⟨by decide, quoteB_no10 _⟩
theorem count_none {l : List UInt8} (h : (10 : UInt8) ∉ l) : l.count 10 = 0 := List.count_eq_zero.2 h
theorem events_count : ∀ l : List api_Event, (eventsB l).count 10 = l.length
  | [] => rfl
  | e :: r => by
    rw [eventsB, List.count_append, count_none (eventB_no10 e), List.count_cons_self, events_count r]
    simp
end Go.Abs.TE
namespace Go.Abs.TE
open Go Go.Abs Go.Proofs
def eStr : El ByteArray := ⟨1, fun s => [.str s], fun _ => rfl, fun a b h => by simpa using h⟩
instance : El.Flat eStr := ⟨fun _ => rfl⟩
/-- A recording lies in block b: its events. -/
structure RecAt (σ : Heap) (b : Nat) (es : List api_Event) : Prop where
  ev : ∃ sl : Sl, σ.cell? b 1 = some (.slice sl.b sl.o sl.n 5) ∧ sl.Is eEv σ es
  pow : GP σ
  fit : ∀ e ∈ es, EvFit e
  few : es.length ≤ 1000
theorem RecAt.uniq {σ : Heap} {b : Nat} {es es' : List api_Event} (h : RecAt σ b es) (h' : RecAt σ b es') : es = es' := by
  obtain ⟨sl, e1, e2⟩ := h.ev
  obtain ⟨sl', e1', e2'⟩ := h'.ev
  rw [e1] at e1'
  simp only [Option.some.injEq, AVal.slice.injEq, and_true] at e1'
  obtain ⟨f1, f2, f3⟩ := e1'
  obtain ⟨sb, so, sn⟩ := sl
  obtain ⟨sb', so', sn'⟩ := sl'
  dsimp only at f1 f2 f3
  subst f1; subst f2; subst f3
  exact e2.uniq (by decide) e2'
theorem evw : (⟨#[101, 118, 101, 110, 116]⟩ : ByteArray) = ba evWord := rfl
theorem two_is (σ : Heap) (x y : Int) : Sl.Is ⟨some σ.length, 0, 2⟩ eI64 (σ ++ [.row [.int .i64 x, .int .i64 y] .rw]) [x, y] := Sl.Is.new (E := eI64) (xs := [x, y]) (by simp)
theorem two_fit {x y : Int} (hx : I64 x) (hy : I64 y) : ∀ n ∈ [x, y], I64 n := fun n hn => by
  rcases List.mem_cons.1 hn with rfl | hn
  · exact hx
  · exact (List.mem_singleton.1 hn) ▸ hy
theorem two_len {x y : Int} (hx : I64 x) (hy : I64 y) : (wordsB [x, y]).length ≤ 44 := wordsB_len (two_fit hx hy)
theorem w_two {σ : Heap} {x y : Int} (hp : GP σ) (hx : I64 x) (hy : I64 y) : w_tell_ints ⟨some σ.length, 0, 2⟩ (σ ++ [.row [.int .i64 x, .int .i64 y] .rw]) = some (ba (wordsB [x, y]), σ ++ [.row [.int .i64 x, .int .i64 y] .rw]) :=
  w_tell_ints_eq (two_is σ x y) (hp.pre (List.prefix_append ..)) (two_fit hx hy) (by simp)
theorem w_two' {σ : Heap} {x y : Int} (hp : GP σ) (hx : I64 x) (hy : I64 y) : w_law26_words ⟨some σ.length, 0, 2⟩ (σ ++ [.row [.int .i64 x, .int .i64 y] .rw]) = some (ba (wordsB [x, y]), σ ++ [.row [.int .i64 x, .int .i64 y] .rw]) :=
  w_law26_words_eq (two_is σ x y) (hp.pre (List.prefix_append ..)) (two_fit hx hy) (by simp)
def evS (e : api_Event) : ByteArray := ba (eventB e)
noncomputable def c_tell_rec_Lines : C_tell_rec_Lines := ⟨w_json_Quote, w_tell_ints⟩
theorem Lines_loop {R : Type} {L : Nat} {l : Sl} {σ0 : Heap} {K : AVal → Heap → Option R} {es : List api_Event} (hl : l.Is eEv σ0 es) (hp : GP σ0) (hf : ∀ e ∈ es, EvFit e) (hn : es.length ≤ 1000) :
    ∀ (m i : Nat) (out : Sl) (σ : Heap) (ys : List ByteArray), es.length - i < m → i ≤ es.length → ys.length = i → Mine eStr σ0 out σ ys → (ys = [] → out.b = none) →
      ∃ σ' out', Mine eStr σ0 out' σ' (ys ++ (es.drop i).map evS) ∧ (ys ++ (es.drop i).map evS = [] → out'.b = none) ∧ tell_rec_Lines_L3 c_tell_rec_Lines L m out (l.b, l.o, l.n) (i : Int) σ K = K (.slice out'.b out'.o out'.n 1) σ'
  | 0, _, _, _, _, h, _, _, _, _ => by omega
  | m + 1, i, out, σ, ys, hm, hi, hy, hM, h0 => by
    have p1 : c_tell_rec_Lines.tell_ints = w_tell_ints := rfl
    have p2 : c_tell_rec_Lines.json_Quote = w_json_Quote := rfl
    rw [tell_rec_Lines_L3_eq, p1, p2]
    dsimp only
    rw [hl.n]
    by_cases h : i < es.length
    · have hdrop : es.drop i = es[i] :: es.drop (i + 1) := List.drop_eq_getElem_cons h
      obtain ⟨lb, hb, c0, c1, c2, c3, c4⟩ := ev_cells (hl.pre hM.pre) (List.getElem?_eq_getElem h)
      have hF := hf _ (List.getElem_mem h)
      generalize es[i] = e at hdrop c0 c1 c2 c3 c4 hF
      have hnext : IntKind.i64.wrap ((i : Int) + 1) = ((i + 1 : Nat) : Int) := wrap_i64_succ i (by omega)
      have step : ∀ σ2, σ <+: σ2 → ∃ σ' out', Mine eStr σ0 out' σ' (ys ++ (es.drop i).map evS) ∧ (ys ++ (es.drop i).map evS = [] → out'.b = none) ∧ ((Heap.append σ2 out.b out.o out.n 1 16 [.str (ba (eventB e))] 1).bind fun q => tell_rec_Lines_L3 c_tell_rec_Lines L m ⟨q.1.1, q.1.2.1, q.1.2.2⟩ (some lb, l.o, es.length) ((i + 1 : Nat) : Int) q.2 K) = K (.slice out'.b out'.o out'.n 1) σ' := fun σ2 hs => by
        obtain ⟨q, σ1, a1, a2⟩ := (hM.step hs).append (zs := [evS e]) (bytes := 16) (vs := [.str (ba (eventB e))]) (k := 1) (by rw [El.all_cons, El.all_nil, List.append_nil]; rfl) rfl (by simp only [List.length_singleton]; omega) (by simp only [List.length_singleton]; omega)
        obtain ⟨σ3, out2, r1, r0, r2⟩ := Lines_loop (L := L) (K := K) hl hp hf hn m (i + 1) _ _ _ (by omega) (by omega) (by rw [List.length_append, hy]; rfl) a2 (fun e => by simp at e)
        refine ⟨σ3, out2, ?_, fun e => by rw [hdrop, List.map_cons] at e; simp at e, ?_⟩
        · rw [hdrop, List.map_cons]
          rw [List.append_assoc] at r1
          exact r1
        · rw [show Heap.append σ2 out.b out.o out.n 1 16 [.str (ba (eventB e))] 1 = some (q, σ1) from a1, Option.bind_some]
          rw [hl.n, hb] at r2
          exact r2
      have hgp : GP σ := hp.pre hM.pre
      have hw1 := two_len hF.t hF.k
      have hw2 := two_len hF.w hF.h
      have hq := quoteB_len e.Data
      have hd := hF.d
      rw [lt_true h, cond_true, dec0, Bool.true_and, cond_true, hb, Option.bind_some, Int.toNat_natCast, c0, c1, c2, c3, c4]
      simp only [int?, str?, Option.bind_some, if_true, hnext, alloc]
      rw [w_two hgp hF.t hF.k, Option.bind_some, evw, ba_append]
      dsimp only
      rw [ba_size, ba_size, if_pos (by simp only [evWord, List.length_cons, List.length_nil]; omega)]
      by_cases hk : e.Kind = 2
      · rw [show (e.Kind == 2) = true from beq_iff_eq.2 hk, cond_true, w_two (hgp.pre (List.prefix_append ..)) hF.w hF.h, Option.bind_some]
        dsimp only
        rw [ba_size, ba_size, if_pos (by simp only [evWord, List.length_append, List.length_cons, List.length_nil]; omega), ba_append]
        have hev : evWord ++ wordsB [e.Time, e.Kind] ++ wordsB [e.W, e.H] = eventB e := by rw [eventB, if_pos hk]
        rw [hev]
        exact step ((σ ++ [.row [.int .i64 e.Time, .int .i64 e.Kind] .rw]) ++ [.row [.int .i64 e.W, .int .i64 e.H] .rw]) (by rw [List.append_assoc]; exact List.prefix_append ..)
      · rw [show (e.Kind == 2) = false from beq_eq_false_iff_ne.2 hk, cond_false, w_json_Quote_eq (by omega), Option.bind_some]
        dsimp only
        rw [b32, ba_append, ba_size, ba_size, ba_size, ba_size, if_pos (by simp only [List.length_cons, List.length_nil]; omega), if_pos (by simp only [evWord, List.length_append, List.length_cons, List.length_nil]; omega), ba_append]
        have hev : evWord ++ wordsB [e.Time, e.Kind] ++ ([32] ++ quoteB e.Data) = eventB e := by rw [eventB, if_neg hk]; rfl
        rw [hev]
        exact step (σ ++ [.row [.int .i64 e.Time, .int .i64 e.Kind] .rw]) (List.prefix_append ..)
    · refine ⟨σ, out, ?_, ?_, by rw [lt_false h, cond_false]⟩
      · rw [List.drop_of_length_le (by omega), List.map_nil, List.append_nil]
        exact hM
      · rw [List.drop_of_length_le (by omega), List.map_nil, List.append_nil]
        exact h0
noncomputable def w_tell_rec_Lines (r : tell_rec) (σ : Heap) : Option (Sl × Heap) := wOf (fun es : List api_Event => ∃ b, r.Rec = some (b, 0) ∧ RecAt σ b es) fun es => fresh eStr σ (es.map evS).isEmpty (es.map evS)
theorem w_rec_Lines_eq {b : Nat} {σ : Heap} {es : List api_Event} (h : RecAt σ b es) : w_tell_rec_Lines ⟨some (b, 0)⟩ σ = some (fresh eStr σ (es.map evS).isEmpty (es.map evS)) :=
  wOf_eq (P := fun es : List api_Event => ∃ b', (⟨some (b, 0)⟩ : tell_rec).Rec = some (b', 0) ∧ RecAt σ b' es) (f := fun es => fresh eStr σ (es.map evS).isEmpty (es.map evS)) ⟨b, rfl, h⟩ fun es' ⟨b', e, h'⟩ => by
    injection e with e; injection e with e _; subst e
    rw [h.uniq h']
theorem ok_tell_rec_Lines : Ok_tell_rec_Lines w_tell_rec_Lines := fun r σ v σ' hx => by
  obtain ⟨es, ⟨b, hb, hR⟩, e⟩ := wOf_some hx
  obtain ⟨rfl, rfl⟩ : v = (fresh eStr σ (es.map evS).isEmpty (es.map evS)).1 ∧ σ' = (fresh eStr σ (es.map evS).isEmpty (es.map evS)).2 := by rw [e]; exact ⟨rfl, rfl⟩
  obtain ⟨sl, h1, h2⟩ := hR.ev
  obtain ⟨σ1, out, g1, g0, g2⟩ := Lines_loop (R := AVal × Heap) (L := 1001) (K := fun v σ => some (v, σ)) h2 hR.pow hR.fit hR.few 1001 0 ⟨none, 0, 0⟩ σ [] (by have := hR.few; omega) (by omega) rfl (Mine.start σ) (fun _ => rfl)
  rw [List.drop_zero, List.nil_append] at g1 g0
  refine call_mine (out := out) (call_ok ok (K_tell_rec_Lines c_tell_rec_Lines ok_json_Quote ok_tell_ints) (L := 1001) (n := 2) (σ' := σ1) ((tell_rec_Lines_eq c_tell_rec_Lines 1001 r σ _).trans ?_)) g1 ?_
  · rw [hb, Option.bind_some]
    dsimp only
    rw [show σ.cell? b (0 + 1) = _ from h1]
    exact g2
  · cases hd : es.map evS with
    | nil => rw [g0 hd]; rfl
    | cons y r => rw [Own.some_of_ne g1.own (by rw [hd]; simp)]; rfl
end Go.Abs.TE
namespace Go.Abs.TE
open Go Go.Abs Go.Proofs
theorem inv_rec {R : Type} (w : C_tell_lines) (L : Nat) (p : Pt) (σ : Heap) (k : AVal → Heap → Option R) :
    invC T (callC T (O_tell_lines w) L 1) "Lines" (fixV T 139 (fixV T 139 (.iface 98 (.agg [.ptr p])))) [] σ k = (w.tell_rec_Lines ⟨p⟩ σ).bind fun q => k (.slice q.1.b q.1.o q.1.n 1) q.2 := by kernel_rfl
noncomputable def c_tell_lines : C_tell_lines := ⟨w_strings_Builder_WriteString, w_strings_Builder_String, fun _ _ => none, w_tell_rec_Lines⟩
theorem str_cell {s : Sl} {σ : Heap} {l : List ByteArray} (h : s.Is eStr σ l) {i : Nat} {x : ByteArray} (hi : l[i]? = some x) : ∃ b, s.b = some b ∧ σ.cell? b (s.o + i * 1) = some (.str x) := by
  obtain ⟨b, hb, hc⟩ := h.cell hi
  exact ⟨b, hb, hc 0 (by decide)⟩
/-- Lines with an end behind each. -/
def linesB : List (List UInt8) → List UInt8
  | [] => []
  | x :: r => x ++ 10 :: linesB r
/-- A builder that is the function's own: what lay there first is as it was. -/
structure Bw (N : Nat) (σ0 : Heap) (b : Nat) (σ : Heap) (ys : List UInt8) : Prop where
  bld : Bld σ b ys
  len : N ≤ σ.length
  at_ : ∀ c, c < N → c ≠ b → σ[c]? = σ0[c]?
  buf : ∀ g, bufOf σ b = some g → N ≤ g
theorem Bw.write {N : Nat} {σ0 σ : Heap} {b : Nat} {ys : List UInt8} (h : Bw N σ0 b σ ys) (s : ByteArray) (hl : ys.length + s.size ≤ 70368744177664) :
    ∃ σ', w_strings_Builder_WriteString (some (b, 0)) s σ = some (((s.size : Int), ⟨true⟩), σ') ∧ Bw N σ0 b σ' (ys ++ s.data.toList) := by
  obtain ⟨σ', h1, h2⟩ := w_WriteString_eq h.bld s hl
  have h3 := h.len
  have h4 := h2.len
  refine ⟨σ', h1, h2.bld, by omega, fun c hc hb => ?_, fun g hg => ?_⟩
  · rw [h2.at_ c (by omega) hb fun e => by have := h.buf c e; omega]
    exact h.at_ c hc hb
  · rcases h2.buf g hg with h5 | h5
    · exact h.buf g h5
    · omega
theorem b10 : (⟨#[10]⟩ : ByteArray) = ba [10] := rfl
theorem ba_list (l : List UInt8) : (ba l).data.toList = l := rfl
theorem write_loop {R : Type} {L fu0 : Nat} {l : Sl} {x : Int} {K : AVal → Heap → Option R} {N : Nat} {σ0 : Heap} {b : Nat} {s : Sl} {ls : List (List UInt8)} (hs : s.Is eStr σ0 (ls.map ba)) (hN : ∀ c, s.b = some c → c < N ∧ c ≠ b) (hlen : ∀ y ∈ ls, y.length ≤ 3000) (hn : ls.length ≤ 1000) :
    ∀ (d i m : Nat) (ys : List UInt8) (σ : Heap), i + d = ls.length → d < m → ys.length + 3001 * d ≤ 10000000 → Bw N σ0 b σ ys →
      ∃ σ', Bw N σ0 b σ' (ys ++ linesB (ls.drop i)) ∧ tell_lines_L6 c_tell_lines L fu0 m b l x (s.b, s.o, s.n) (i : Int) σ K = tell_lines_L3 c_tell_lines L fu0 b l (IntKind.i64.wrap (x + 1)) σ' K
  | d, i, 0, _, _, _, h, _, _ => by omega
  | 0, i, m + 1, ys, σ, h, _, _, hB => by
    refine ⟨σ, by rw [List.drop_eq_nil_of_le (by omega), linesB, List.append_nil]; exact hB, ?_⟩
    rw [tell_lines_L6_eq]
    dsimp only
    rw [hs.n, List.length_map, lt_false (by omega), cond_false]
  | d + 1, i, m + 1, ys, σ, h, hm, hy, hB => by
    have hi : i < ls.length := by omega
    have p1 : c_tell_lines.strings_Builder_WriteString = w_strings_Builder_WriteString := rfl
    have hs' : s.Is eStr σ (ls.map ba) := hs.of_row fun c cs hc hr => by
      obtain ⟨h1, h2⟩ := hN c hc
      unfold Heap.row? at hr ⊢
      rw [hB.at_ c h1 h2]
      exact hr
    obtain ⟨c, hc, c0⟩ := str_cell hs' (i := i) (x := ba ls[i]) (by rw [List.getElem?_map, List.getElem?_eq_getElem hi]; rfl)
    have hl := hlen _ (List.getElem_mem hi)
    have hdrop : ls.drop i = ls[i] :: ls.drop (i + 1) := List.drop_eq_getElem_cons hi
    generalize ls[i] = y at c0 hl hdrop
    obtain ⟨σ', w1, w2⟩ := hB.write (ba (y ++ [10])) (by rw [ba_size, List.length_append]; simp only [List.length_singleton]; omega)
    rw [ba_list] at w2
    obtain ⟨σ2, r1, r2⟩ := write_loop (L := L) (fu0 := fu0) (l := l) (x := x) (K := K) hs hN hlen hn d (i + 1) m _ σ' (by omega) (by omega) (by rw [List.length_append, List.length_append]; simp only [List.length_singleton]; omega) w2
    refine ⟨σ2, ?_, ?_⟩
    · rw [hdrop, linesB]
      rw [List.append_assoc, List.append_assoc] at r1
      exact r1
    · rw [tell_lines_L6_eq, p1]
      dsimp only
      rw [hs.n, List.length_map, lt_true hi, cond_true, dec0, Bool.true_and, cond_true, hc, Option.bind_some, Int.toNat_natCast, c0]
      simp only [str?, Option.bind_some]
      rw [b10, ba_append, if_pos (by rw [ba_size, ba_size]; simp only [List.length_singleton]; omega), w1, Option.bind_some]
      rw [hs.n, List.length_map, hc] at r2
      rw [wrap_i64_succ i (by omega)]
      exact r2
theorem linesB_events (es : List api_Event) : linesB (es.map eventB) = eventsB es := by
  induction es with
  | nil => rfl
  | cons e r ih => rw [List.map_cons, linesB, eventsB, ih]
/-- One thing that tells lines, in a row: a recording. -/
structure OneRec (σ : Heap) (l : Sl) (es : List api_Event) : Prop where
  at_ : ∃ c b, l = ⟨some c, 0, 1⟩ ∧ σ.cell? c 0 = some (.iface 98 (.agg [.ptr (some (b, 0))])) ∧ RecAt σ b es
theorem OneRec.uniq {σ : Heap} {l : Sl} {es es' : List api_Event} (h : OneRec σ l es) (h' : OneRec σ l es') : es = es' := by
  obtain ⟨c, b, rfl, h1, h2⟩ := h.at_
  obtain ⟨c', b', e, h1', h2'⟩ := h'.at_
  simp only [Sl.mk.injEq, Option.some.injEq, and_true] at e
  subst e
  rw [h1] at h1'
  simp only [Option.some.injEq, AVal.iface.injEq, AVal.agg.injEq, List.cons.injEq, AVal.ptr.injEq, Prod.mk.injEq, and_true, true_and] at h1'
  subst h1'
  exact h2.uniq h2'
noncomputable def w_tell_lines (l : Sl) (σ : Heap) : Option (ByteArray × Heap) := wOf (OneRec σ l) fun es => (ba (eventsB es), σ)
theorem w_tell_lines_eq {l : Sl} {σ : Heap} {es : List api_Event} (h : OneRec σ l es) : w_tell_lines l σ = some (ba (eventsB es), σ) := wOf_eq (f := fun es => (ba (eventsB es), σ)) h fun es' h' => by rw [h.uniq h']
theorem cell_pre {σ σ' : Heap} {b o : Nat} {x : AVal} (h : σ.cell? b o = some x) (hp : σ <+: σ') : σ'.cell? b o = some x := by
  unfold Heap.cell? at h ⊢
  cases hr : σ.row? b with
  | none => rw [hr] at h; cases h
  | some cs => rw [row?_pre hp hr]; rw [hr] at h; exact h
theorem RecAt.pre {σ σ' : Heap} {b : Nat} {es : List api_Event} (h : RecAt σ b es) (hp : σ <+: σ') : RecAt σ' b es := by
  obtain ⟨sl, h1, h2⟩ := h.ev
  exact ⟨⟨sl, cell_pre h1 hp, h2.pre hp⟩, h.pow.pre hp, h.fit, h.few⟩
theorem ok_tell_lines : Ok_tell_lines w_tell_lines := fun l σ v σ' hx => by
  obtain ⟨es, hO, e⟩ := wOf_some hx
  injection e with e1 e2
  subst e1; subst e2
  obtain ⟨c, b, rfl, h1, hR⟩ := hO.at_
  have hK := K_tell_lines c_tell_lines ok_strings_Builder_WriteString ok_strings_Builder_String (fun _ _ _ _ h => by cases h) ok_tell_rec_Lines
  have q1 : c_tell_lines.tell_rec_Lines = w_tell_rec_Lines := rfl
  have q2 : c_tell_lines.strings_Builder_String = w_strings_Builder_String := rfl
  have hp3 : σ <+: σ ++ [.row [.ptr none, .slice none 0 0 1] .rw] ++ [Blk.tys σ.length 137 2] := by rw [List.append_assoc]; exact List.prefix_append ..
  have hR3 := hR.pre hp3
  have h13 := cell_pre h1 hp3
  have hr : callC T (O_tell_lines c_tell_lines) 1001 2 39 [.slice (some c) 0 1 1] σ (fun v σ => some (v, σ)) = _ := tell_lines_eq c_tell_lines 1001 ⟨some c, 0, 1⟩ σ fun v σ => some (v, σ)
  unfold allocT at hr
  have hB3 : Bld (σ ++ [.row [.ptr none, .slice none 0 0 1] .rw] ++ [Blk.tys σ.length 137 2]) σ.length [] := ⟨typed_new, _, _, by rw [List.append_assoc, List.getElem?_append_right (Nat.le_refl _), Nat.sub_self]; rfl, .inl rfl, .inl ⟨rfl, rfl⟩⟩
  have hbuf3 : bufOf (σ ++ [.row [.ptr none, .slice none 0 0 1] .rw] ++ [Blk.tys σ.length 137 2]) σ.length = none := by
    unfold bufOf
    rw [List.append_assoc, List.getElem?_append_right (Nat.le_refl _), Nat.sub_self]
    rfl
  have hl3 : (σ ++ [Blk.row [.ptr none, .slice none 0 0 1] .rw] ++ [Blk.tys σ.length 137 2]).length = σ.length + 2 := by simp
  generalize hσ3 : (σ ++ [Blk.row [.ptr none, .slice none 0 0 1] .rw] ++ [Blk.tys σ.length 137 [AVal.ptr none, .slice none 0 0 1].length] : Heap) = σ3 at hr
  have hσ3' : (σ ++ [Blk.row [.ptr none, .slice none 0 0 1] .rw] ++ [Blk.tys σ.length 137 2] : Heap) = σ3 := hσ3
  rw [hσ3'] at hp3 hR3 h13 hB3 hbuf3 hl3
  dsimp only at hr
  rw [show (1001 : Nat) = 1000 + 1 from rfl, tell_lines_L3_eq] at hr
  dsimp only at hr
  rw [show (decide ((0 : Int) < ((1 : Nat) : Int))) = true from rfl, cond_true, show ((decide ((0 : Int) ≤ 0)) && true) = true from rfl, cond_true, Option.bind_some, show σ3.cell? c (0 + (0 : Int).toNat * 1) = _ from h13] at hr
  simp only [iface?, Option.bind_some] at hr
  rw [inv_rec, q1, w_rec_Lines_eq hR3, Option.bind_some] at hr
  have hls : (es.map evS) = (es.map eventB).map ba := by rw [List.map_map]; rfl
  have hlen : ∀ y ∈ es.map eventB, y.length ≤ 3000 := fun y hy => by
    obtain ⟨e, he, rfl⟩ := List.mem_map.1 hy
    exact eventB_len (hR.fit e he)
  have hfew := hR.few
  have hpre7 := fresh_pre eStr σ3 (es.map evS).isEmpty (es.map evS)
  have hown7 := fresh_own eStr σ3 (es.map evS).isEmpty (es.map evS) fun h => List.isEmpty_iff.1 h
  have hnew7 := fresh_new eStr σ3 (es.map evS).isEmpty (es.map evS)
  have hlt7 : ∀ k, (fresh eStr σ3 (es.map evS).isEmpty (es.map evS)).1.b = some k → k < (fresh eStr σ3 (es.map evS).isEmpty (es.map evS)).2.length := fun k hk => (hown7.is (by rw [List.length_map]; omega)).lt hk
  have his7 := hown7.is (by rw [List.length_map]; omega)
  generalize fresh eStr σ3 (es.map evS).isEmpty (es.map evS) = q at hr hpre7 hown7 hnew7 hlt7 his7
  have hl7 := hpre7.length_le
  have hBw : Bw q.2.length q.2 σ.length q.2 [] := ⟨hB3.pre hpre7, Nat.le_refl _, fun _ _ _ => rfl, fun g hg => by
    rw [show bufOf q.2 σ.length = bufOf σ3 σ.length from by unfold bufOf; rw [get_pre hpre7 (by omega)], hbuf3] at hg
    cases hg⟩
  rw [hls] at his7
  obtain ⟨σ8, w1, w2⟩ := write_loop (R := AVal × Heap) (L := 1000 + 1) (fu0 := 1000) (l := ⟨some c, 0, 1⟩) (x := 0) (K := fun v σ => some (v, σ)) (N := q.2.length) (σ0 := q.2) (b := σ.length) (s := q.1) (ls := es.map eventB) his7 (fun k hk => ⟨hlt7 k hk, by have := hnew7 k hk; omega⟩) hlen (by rw [List.length_map]; omega) es.length 0 1001 [] q.2 (by rw [List.length_map]; omega) (by omega) (by simp only [List.length_nil]; omega) hBw
  rw [List.drop_zero, List.nil_append, linesB_events] at w1
  have hsl : slice? (some (AVal.slice q.1.b q.1.o q.1.n 1)) 1 = some (q.1.b, q.1.o, q.1.n) := rfl
  rw [hsl, Option.bind_some] at hr
  rw [show ((0 : Nat) : Int) = 0 from rfl] at w2
  rw [w2, show IntKind.i64.wrap ((0 : Int) + 1) = 1 by rw [IntKind.wrap_i64]; omega] at hr
  have h8 : ∃ m8, (1000 : Nat) = m8 + 1 := ⟨999, rfl⟩
  rw [show tell_lines_L3 c_tell_lines (1000 + 1) 1000 σ.length ⟨some c, 0, 1⟩ 1 σ8 (fun v σ => some (v, σ)) = _ from tell_lines_L3_eq c_tell_lines (1000 + 1) 999 σ.length ⟨some c, 0, 1⟩ 1 σ8 _] at hr
  rw [show (decide ((1 : Int) < (((⟨some c, 0, 1⟩ : Sl).n : Nat) : Int))) = false from rfl, cond_false, q2] at hr
  have hbl : (eventsB es).length ≤ 70368744177664 := by have := eventsB_len hR.fit; omega
  obtain ⟨σ9, s1, s2, s3⟩ := w_BString_eq w1.bld hbl
  rw [s1, Option.bind_some] at hr
  have hcall := call_ok ok hK hr
  have hlen8 := w1.len
  refine call_gc0 hcall (fun k hk => ?_) (by trivial)
  dsimp only
  rw [s3 k (by omega) (fun e => by have := w1.buf k e; omega), w1.at_ k (by omega) (by omega), get_pre hpre7 (by omega), get_pre hp3 hk]
end Go.Abs.TE
namespace Go.Abs.TE
open Go Go.Abs Go.Proofs
noncomputable def c_tell_Rec : C_tell_Rec := ⟨w_tell_lines⟩
noncomputable def w_tell_Rec (p : Pt) (σ : Heap) : Option (ByteArray × Heap) := wOf (fun es : List api_Event => ∃ b, p = some (b, 0) ∧ RecAt σ b es) fun es => (ba (eventsB es), σ)
theorem w_tell_Rec_eq {b : Nat} {σ : Heap} {es : List api_Event} (h : RecAt σ b es) : w_tell_Rec (some (b, 0)) σ = some (ba (eventsB es), σ) :=
  wOf_eq (P := fun es : List api_Event => ∃ b', some (b, 0) = some (b', 0) ∧ RecAt σ b' es) (f := fun es => (ba (eventsB es), σ)) ⟨b, rfl, h⟩ fun es' ⟨b', e, h'⟩ => by
    injection e with e; injection e with e _; subst e
    rw [h.uniq h']
theorem ok_tell_Rec : Ok_tell_Rec w_tell_Rec := fun p σ v σ' hx => by
  obtain ⟨es, ⟨b, rfl, hR⟩, e⟩ := wOf_some hx
  injection e with e1 e2
  subst e1; subst e2
  have q1 : c_tell_Rec.tell_lines = w_tell_lines := rfl
  have hpre : σ <+: σ ++ [.row [.iface 98 (.agg [.ptr (some (b, 0))])] .rw] := List.prefix_append ..
  have hO : OneRec (σ ++ [.row [.iface 98 (.agg [.ptr (some (b, 0))])] .rw]) ⟨some σ.length, 0, 1⟩ es := ⟨σ.length, b, rfl, by
    unfold Heap.cell?
    rw [row?_of (m := .rw) (get_push ..) (by simp)]
    rfl, hR.pre hpre⟩
  refine call_gc0 (σ1 := σ ++ [.row [.iface 98 (.agg [.ptr (some (b, 0))])] .rw]) (call_ok ok (K_tell_Rec c_tell_Rec ok_tell_lines) (L := 0) (n := 2) ((tell_Rec_eq c_tell_Rec 0 (some (b, 0)) σ _).trans ?_)) (fun k hk => List.getElem?_append_left hk) (by trivial)
  unfold alloc
  rw [q1]
  dsimp only
  rw [w_tell_lines_eq hO, Option.bind_some]
  rfl
/-! ### The law's own text -/
noncomputable def c_law26_events : C_law26_events := ⟨w_law26_words, w_json_Quote⟩
theorem events_loop {R : Type} {L : Nat} {l : Sl} {σ0 : Heap} {K : AVal → Heap → Option R} {es : List api_Event} (hl : l.Is eEv σ0 es) (hp : GP σ0) (hf : ∀ e ∈ es, EvFit e) (hn : es.length ≤ 1000) :
    ∀ (d i m : Nat) (ys : List UInt8) (σ : Heap), i + d = es.length → d < m → ys.length + 3001 * d ≤ 10000000 → σ0 <+: σ →
      ∃ σ', σ0 <+: σ' ∧ law26_events_L3 c_law26_events L m (ba ys) l (i : Int) σ K = K (.str (ba (ys ++ eventsB (es.drop i)))) σ'
  | d, i, 0, _, _, _, h, _, _ => by omega
  | 0, i, m + 1, ys, σ, h, _, _, hs => by
    refine ⟨σ, hs, ?_⟩
    rw [law26_events_L3_eq, hl.n, lt_false (by omega), cond_false, List.drop_eq_nil_of_le (by omega), eventsB, List.append_nil]
  | d + 1, i, m + 1, ys, σ, h, hm, hy, hs => by
    have hi : i < es.length := by omega
    have p1 : c_law26_events.law26_words = w_law26_words := rfl
    have p2 : c_law26_events.json_Quote = w_json_Quote := rfl
    have hdrop : es.drop i = es[i] :: es.drop (i + 1) := List.drop_eq_getElem_cons hi
    obtain ⟨lb, hb, c0, c1, c2, c3, c4⟩ := ev_cells (hl.pre hs) (List.getElem?_eq_getElem hi)
    have hF := hf _ (List.getElem_mem hi)
    generalize es[i] = e at hdrop c0 c1 c2 c3 c4 hF
    have hnext : IntKind.i64.wrap ((i : Int) + 1) = ((i + 1 : Nat) : Int) := wrap_i64_succ i (by omega)
    have hel := eventB_len hF
    have step : ∀ σ2, σ <+: σ2 → ∃ σ', σ0 <+: σ' ∧ law26_events_L3 c_law26_events L m (ba (ys ++ (eventB e ++ [10]))) l ((i + 1 : Nat) : Int) σ2 K = K (.str (ba (ys ++ eventsB (es.drop i)))) σ' := fun σ2 h2 => by
      obtain ⟨σ', r1, r2⟩ := events_loop (L := L) (K := K) hl hp hf hn d (i + 1) m (ys ++ (eventB e ++ [10])) σ2 (by omega) (by omega) (by simp only [List.length_append, List.length_singleton]; omega) (hs.trans h2)
      refine ⟨σ', r1, ?_⟩
      rw [r2, hdrop, eventsB]
      simp only [List.append_assoc, List.singleton_append]
    have hgp : GP σ := hp.pre hs
    have hw1 := two_len hF.t hF.k
    have hw2 := two_len hF.w hF.h
    have hq := quoteB_len e.Data
    have hd := hF.d
    have hev5 : evWord.length = 5 := rfl
    rw [law26_events_L3_eq, p1, p2, hl.n, lt_true hi, cond_true, dec0, Bool.true_and, cond_true, hb, Option.bind_some, Int.toNat_natCast, c0, c1, c2, c3, c4]
    simp only [int?, str?, Option.bind_some, if_true, hnext, alloc]
    rw [w_two' hgp hF.t hF.k, Option.bind_some, evw]
    dsimp only
    simp only [ba_append, ba_size, b10, b32]
    have z : ∀ {x : Nat}, x ≤ 20000000 → x ≤ 9223372036854775807 := fun h => by omega
    rw [if_pos (z (by simp only [List.length_append, hev5]; omega)), if_pos (z (by simp only [List.length_append, hev5]; omega))]
    by_cases hk : e.Kind = 2
    · rw [show (e.Kind == 2) = true from beq_iff_eq.2 hk, cond_true, w_two' (hgp.pre (List.prefix_append ..)) hF.w hF.h, Option.bind_some]
      dsimp only
      simp only [ba_append, ba_size]
      rw [if_pos (z (by simp only [List.length_append, List.length_singleton]; omega)), if_pos (z (by simp only [List.length_append, List.length_singleton, hev5]; omega))]
      have hev : ys ++ (evWord ++ wordsB [e.Time, e.Kind]) ++ (wordsB [e.W, e.H] ++ [10]) = ys ++ (eventB e ++ [10]) := by rw [eventB, if_pos hk]; simp only [List.append_assoc]
      rw [hev]
      exact step ((σ ++ [.row [.int .i64 e.Time, .int .i64 e.Kind] .rw]) ++ [.row [.int .i64 e.W, .int .i64 e.H] .rw]) (by rw [List.append_assoc]; exact List.prefix_append ..)
    · rw [show (e.Kind == 2) = false from beq_eq_false_iff_ne.2 hk, cond_false, w_json_Quote_eq (by omega), Option.bind_some]
      dsimp only
      simp only [ba_append, ba_size]
      rw [if_pos (z (by simp only [List.length_singleton]; omega)), if_pos (z (by simp only [List.length_append, List.length_singleton]; omega)), if_pos (z (by simp only [List.length_append, List.length_singleton, hev5]; omega))]
      have hev : ys ++ (evWord ++ wordsB [e.Time, e.Kind]) ++ ([32] ++ quoteB e.Data ++ [10]) = ys ++ (eventB e ++ [10]) := by rw [eventB, if_neg hk]; simp only [List.append_assoc, List.singleton_append, List.cons_append, List.nil_append]
      rw [hev]
      exact step (σ ++ [.row [.int .i64 e.Time, .int .i64 e.Kind] .rw]) (List.prefix_append ..)
structure EvsAt (σ : Heap) (l : Sl) (es : List api_Event) : Prop where
  is : l.Is eEv σ es
  pow : GP σ
  fit : ∀ e ∈ es, EvFit e
  few : es.length ≤ 1000
noncomputable def w_law26_events (l : Sl) (σ : Heap) : Option (ByteArray × Heap) := wOf (EvsAt σ l) fun es => (ba (eventsB es), σ)
theorem w_law26_events_eq {l : Sl} {σ : Heap} {es : List api_Event} (h : EvsAt σ l es) : w_law26_events l σ = some (ba (eventsB es), σ) := wOf_eq (f := fun es => (ba (eventsB es), σ)) h fun es' h' => by rw [h.is.uniq (by decide) h'.is]
theorem ok_law26_events : Ok_law26_events w_law26_events := fun l σ v σ' hx => by
  obtain ⟨es, hE, e⟩ := wOf_some hx
  injection e with e1 e2
  subst e1; subst e2
  have hf := hE.few
  obtain ⟨σ1, r1, r2⟩ := events_loop (R := AVal × Heap) (L := 1001) (K := fun v σ => some (v, σ)) hE.is hE.pow hE.fit hE.few es.length 0 1001 [] σ (by omega) (by omega) (by simp only [List.length_nil]; omega) (List.prefix_rfl)
  rw [List.drop_zero, List.nil_append] at r2
  exact call_gc0 (call_ok ok (K_law26_events c_law26_events ok_law26_words ok_json_Quote) (L := 1001) (n := 2) ((law26_events_eq c_law26_events 1001 l σ _).trans r2)) (fun k hk => get_pre r1 hk) (by trivial)
end Go.Abs.TE
