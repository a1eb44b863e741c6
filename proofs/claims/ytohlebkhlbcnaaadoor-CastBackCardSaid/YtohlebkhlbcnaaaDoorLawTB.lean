/-
CastBack on the machine.
-/
import Derived.Test.YtohlebkhlbcnaaaDoorMConW
import Derived.Test.YtohlebkhlbcnaaaDoorLawTW
namespace Go.Abs.TB
open Go Go.Abs Go.Proofs

def wholeE (e : Ev) : Ev := ⟨e.t, e.k, ba (wholeL e.s.data.toList), e.w, e.h⟩
def Up : Int → List Ev → Prop
  | _, [] => True
  | last, e :: es => last ≤ e.t ∧ Up e.t es
theorem tameE_t (t : Int) (e : Ev) : (tameE t e).t = t := by
  unfold tameE
  split <;> rfl
theorem tameL_up : ∀ (es : List Ev) (t : Int) (i : Nat), 0 ≤ t → t ≤ 65535 * i → i + es.length ≤ 1000 → Up t (tameL t es)
  | [], _, _, _, _, _ => trivial
  | x :: es, t, i, h0, h1, h2 => by
    rw [List.length_cons] at h2
    have h3 := tame_t h0 h1 (by omega) x.t
    rw [tameL, Up, tameE_t]
    refine ⟨?_, tameL_up es _ (i + 1) h3.1 h3.2 (by omega)⟩
    obtain ⟨u, hu, eu⟩ := msk_nat x.t (m := 65535) (by decide)
    change msk x.t 65535 = _ at eu
    rw [eu, wrap_i64_of (by omega) (by omega)]
    omega
theorem okl_of : ∀ {es : List Ev} {last : Int}, Up last es → (∀ e ∈ es, (wholeE e).Good) → OkL last (es.map wholeE)
  | [], _, _, _ => trivial
  | e :: es, _, h, hg => ⟨h.1, hg e List.mem_cons_self, okl_of h.2 fun x hx => hg x (List.mem_cons_of_mem _ hx)⟩
theorem good_whole {e : Ev} (h : e.Tame) (hs : (wholeE e).s.size ≤ 400) : (wholeE e).Good := by
  refine ⟨h.t0, by show e.t < _; have := h.t1; omega, h.k0, h.k1, hs, ?_, fun hk => ⟨?_, ?_⟩, fun hk => h.wh.2 hk⟩
  · show wholeL (ba (wholeL e.s.data.toList)).data.toList = (ba (wholeL e.s.data.toList)).data.toList
    rw [ba_data, whole_whole]
  · have : e.s = ⟨#[]⟩ := h.s2 hk
    show ba (wholeL e.s.data.toList) = _
    rw [this]
    rfl
  · have h1 := h.wh.1 hk
    have h2 := h.w
    have h3 := h.h
    show 1 ≤ e.w ∧ 1 ≤ e.h ∧ e.w ≤ 1000 ∧ e.h ≤ 1000
    omega
theorem take_set {A B : List Ev} {i : Nat} (h : i < A.length) (hl : A.length = B.length) : (A.take i ++ B.drop i).set i A[i] = A.take (i + 1) ++ B.drop (i + 1) := by
  have ht : (A.take i).length = i := by rw [List.length_take]; omega
  rw [List.drop_eq_getElem_cons (show i < B.length by omega), List.set_append_right _ _ (by omega), ht, Nat.sub_self, List.set_cons_zero, List.take_succ_eq_append_getElem h, List.append_assoc]
  rfl
noncomputable def c_CastBack : C_law17_CastBack := { law17_fit := w_law17_fit, ref12_Tame := w_ref12_Tame, cast_Export := w_cast_Export, law17_whole := w_law17_whole, cast_Import := w_cast_Import, ref12_Same := w_ref12_Same }
theorem Back_loop {L : Nat} {σ0 : Heap} {w h : Int} {u v : Nat} (hu : IntKind.i64.wrap (BitVec.ofInt IntKind.i64.bits w &&& BitVec.ofInt IntKind.i64.bits 4611686018427387903).toNat = (u : Int)) (hv : IntKind.i64.wrap (BitVec.ofInt IntKind.i64.bits h &&& BitVec.ofInt IntKind.i64.bits 4611686018427387903).toNat = (v : Int))
    (hul : u ≤ 4611686018427387903) (hvl : v ≤ 4611686018427387903) {es : List Ev} (hn : es.length ≤ 60) (hT : ∀ e ∈ es, e.Tame) (hU : Up 0 es) {l : Sl} (hnew : ∀ c, l.b = some c → σ0.length ≤ c) (hp : PowOK true true σ0) :
    ∀ (m i : Nat) (σ : Heap), es.length - i < m → i ≤ es.length → l.Own eEv σ ((es.map wholeE).take i ++ es.drop i) → σ0 <+: σ → (∀ j e, j < i → es[j]? = some e → (wholeE e).s.size ≤ 400) →
      ∃ σ', law17_CastBack_L8 c_CastBack L m w h l (es.length : Int) (i : Int) σ (fun v σ => some (v, σ)) = some (.bool true, σ')
  | 0, _, _, h, _, _, _, _ => by omega
  | m + 1, i, σ, hm, hi, hO, hpre, hsz => by
    have p1 : c_CastBack.law17_whole = w_law17_whole := rfl
    have p2 : c_CastBack.cast_Export = w_cast_Export := rfl
    have p3 : c_CastBack.cast_Import = w_cast_Import := rfl
    have p4 : c_CastBack.ref12_Same = w_ref12_Same := rfl
    have hcl : ((es.map wholeE).take i ++ es.drop i).length = es.length := by
      rw [List.length_append, List.length_take, List.length_drop, List.length_map]; omega
    have hI : l.Is eEv σ _ := hO.is (by rw [hcl]; omega)
    have hln : l.n = es.length := by rw [hI.n, hcl]
    rw [law17_CastBack_L8_eq, p1, p2, p3, p4, hln]
    by_cases hlt : i < es.length
    · have hge : es[i]? = some es[i] := List.getElem?_eq_getElem hlt
      have hA : i < (es.map wholeE).length := by rw [List.length_map]; exact hlt
      have hAi : (es.map wholeE)[i] = wholeE es[i] := List.getElem_map ..
      have hti : ((es.map wholeE).take i).length = i := by rw [List.length_take]; omega
      have hcur : ((es.map wholeE).take i ++ es.drop i)[i]? = some es[i] := by
        rw [List.getElem?_append_right (by omega), hti, Nat.sub_self, List.getElem?_drop, Nat.add_zero]
        exact hge
      have hset := take_set (A := es.map wholeE) (B := es) hA (List.length_map ..)
      rw [hAi] at hset
      have hTe := hT es[i] (List.getElem_mem hlt)
      generalize hee : es[i] = e at hge hcur hset hTe
      obtain ⟨lb, hb, hc⟩ := hI.cell hcur
      have ho : l.o = 0 := by
        cases hO with
        | nil h1 _ _ _ => rw [h1] at hb; cases hb
        | row c _ h2 _ _ => exact h2
      have c2 := hc 2 (by decide)
      change Heap.cell? σ lb (l.o + i * 5 + 2) = some (AVal.str e.s) at c2
      have hnext : IntKind.i64.wrap ((i : Int) + 1) = ((i + 1 : Nat) : Int) := wrap_i64_succ i (by omega)
      have hy : overwrite (eEv.all ((es.map wholeE).take i ++ es.drop i)) (i * 5 + 2) [.str (ba (wholeL e.s.data.toList))] = eEv.all ((es.map wholeE).take (i + 1) ++ es.drop (i + 1)) := by
        rw [← hset]
        exact El.all_set eEv _ hcur (wholeE e) [.int .i64 e.t, .int .i64 e.k] [.str e.s] [.int .i64 e.w, .int .i64 e.h] rfl (vs := [.str (ba (wholeL e.s.data.toList))]) rfl rfl rfl
      have hcl2 : ((es.map wholeE).take (i + 1) ++ es.drop (i + 1)).length = es.length := by
        rw [List.length_append, List.length_take, List.length_drop, List.length_map]; omega
      obtain ⟨σ2, s1, s2, s3, s4⟩ := store_own hO hb hy (by rw [hcl2, hcl]) (by rw [hcl]; show i * 5 + 2 + 1 ≤ es.length * 5; omega)
      have hcur2 : ((es.map wholeE).take (i + 1) ++ es.drop (i + 1))[i]? = some (wholeE e) := by
        rw [← hset, List.getElem?_set_self (by rw [hcl]; exact hlt)]
      obtain ⟨lb2, hb2, hc2⟩ := (s2.is (by rw [hcl2]; omega)).cell hcur2
      rw [hb] at hb2
      injection hb2 with hb2
      subst hb2
      have d2 := hc2 2 (by decide)
      change Heap.cell? σ2 lb (l.o + i * 5 + 2) = some (AVal.str (wholeE e).s) at d2
      have hpre2 : σ0 <+: σ2 := pre_of_get (by rw [s3]; exact hpre.length_le) fun c hc => by
        rw [s4 c (by have := hnew lb hb; omega), get_pre hpre hc]
      have hs' : Heap.store σ lb (l.o + i * 5 + 2) [.str (ba (wholeL e.s.data.toList))] = some σ2 := by rw [ho, Nat.zero_add]; exact s1
      have hes := hTe.s
      rw [decide_eq_true (show ((i : Int) < (es.length : Int)) by omega), cond_true, dec0, Bool.true_and, cond_true, hb, Option.bind_some, Int.toNat_natCast, c2]
      simp only [str?, Option.bind_some, hnext, cond_true]
      rw [w_law17_whole_eq (by omega), Option.bind_some]
      dsimp only
      rw [hs', Option.bind_some, d2]
      simp only [Option.bind_some]
      by_cases h4 : (wholeE e).s.size > 400
      · rw [decide_eq_true (show ((wholeE e).s.size : Int) > 400 by omega), cond_true]
        exact ⟨_, rfl⟩
      · rw [decide_eq_false (show ¬ ((wholeE e).s.size : Int) > 400 by omega), cond_false]
        exact Back_loop hu hv hul hvl hn hT hU hnew hp m (i + 1) σ2 (by omega) (by omega) s2 hpre2 fun j x hj hx => by
          by_cases hji : j = i
          · subst hji
            rw [hge] at hx
            injection hx with hx
            subst hx
            omega
          · exact hsz j x (by omega) hx
    · have hi' : i = es.length := by omega
      subst hi'
      have hcur : (es.map wholeE).take es.length ++ es.drop es.length = es.map wholeE := by
        rw [List.drop_length, List.append_nil, List.take_of_length_le (by rw [List.length_map]; exact Nat.le_refl _)]
      rw [hcur] at hO
      have hG : OkL 0 (es.map wholeE) := okl_of hU fun e he => good_whole (hT e he) (by
        obtain ⟨j, hj⟩ := List.mem_iff_getElem?.1 he
        exact hsz j e (List.getElem?_eq_some_iff.1 hj).1 hj)
      have hml : (es.map wholeE).length = es.length := List.length_map ..
      have hpσ := hp.pre hpre
      have iu : I64 (u : Int) := by constructor <;> omega
      have iv : I64 (v : Int) := by constructor <;> omega
      have hF : ∀ e ∈ es.map wholeE, e.Fit := fun e he => (hG.good e he).fit
      have hE : ExpP (u : Int) (v : Int) l σ (es.map wholeE) := ⟨hpσ.gp, iu, iv, hO.is (by rw [hml]; omega), by rw [hml]; omega, hF⟩
      obtain ⟨b1, b2, b3⟩ := imp_back (w := u) (h := v) (by omega) (by omega) hG (by rw [hml]; omega)
      have hX := export_len iu iv hF
      have hP : ImpP (ba (exportL (u : Int) (v : Int) (es.map wholeE))) σ (some (es.map wholeE)) := ⟨hpσ.gu, hpσ.ge, by rw [ba_size]; omega, by rw [ba_data]; exact b3⟩
      have hS := w_ref12_Same_eq (a := (fresh eEv σ (es.map wholeE).isEmpty (es.map wholeE)).1) (b := l) (σ := (fresh eEv σ (es.map wholeE).isEmpty (es.map wholeE)).2) (es := es.map wholeE)
        ((fresh_own eEv σ _ _ (fun h => by rw [List.isEmpty_iff] at h; exact h)).is (by rw [hml]; omega)) ((hO.pre (fresh_pre ..)).is (by rw [hml]; omega)) (by rw [hml]; omega)
      rw [decide_eq_false (show ¬ ((es.length : Int) < (es.length : Int)) by omega), cond_false, hu, hv, w_cast_Export_eq hE, Option.bind_some, w_cast_Import_eq hP, Option.bind_some, ba_data]
      unfold impV
      dsimp only
      rw [b1, b2, beq_self_eq_true, beq_self_eq_true, beq_self_eq_true, cond_true, cond_true, cond_true, hS, Option.bind_some]
      exact ⟨_, rfl⟩
theorem law_CastBack (w h : Int) (l : Sl) {σ : Heap} {es : List Ev} (hp : PowOK true true σ) (hn : l.n = es.length) (hI : es.length ≤ 1099511627776 → l.Is eEv σ es) :
    ∃ σ1, CallOK Tryd.prog T 11 [.int .i64 w, .int .i64 h, .slice l.b l.o l.n 5] σ (.bool true) σ1 := by
  have hK := K_law17_CastBack c_CastBack ok_law17_fit ok_ref12_Tame ok_cast_Export ok_law17_whole ok_cast_Import ok_ref12_Same
  have hr := law17_CastBack_eq (R := AVal × Heap) c_CastBack 100 w h l σ fun v σ => some (v, σ)
  have q1 : c_CastBack.law17_fit = w_law17_fit := rfl
  have q2 : c_CastBack.ref12_Tame = w_ref12_Tame := rfl
  rw [q1, q2, w_law17_fit_eq hp.gp, Option.bind_some, Bool.not_true, cond_false, hn] at hr
  by_cases h60 : es.length > 60
  · rw [decide_eq_true (show (es.length : Int) > 60 by omega), cond_true] at hr
    rw [hn]
    exact ⟨_, call_ok ok hK hr⟩
  · rw [decide_eq_false (show ¬ (es.length : Int) > 60 by omega), cond_false, w_ref12_Tame_eq (hI (by omega)) (by omega), Option.bind_some] at hr
    obtain ⟨u, hul, hu⟩ := msk_nat w (m := 4611686018427387903) (by decide)
    obtain ⟨v, hvl, hv⟩ := msk_nat h (m := 4611686018427387903) (by decide)
    have hT := tameL_len es 0
    have ho := fresh_own eEv σ es.isEmpty (tameL 0 es) (fun h => by rw [List.isEmpty_iff] at h; subst h; rfl)
    obtain ⟨σ1, g⟩ := Back_loop (L := 100) (σ0 := σ) (w := w) (h := h) hu hv hul hvl (es := tameL 0 es) (by omega) (tameL_tame es 0 0 (by omega) (by omega) (by omega)) (tameL_up es 0 0 (by omega) (by omega) (by omega)) (l := (fresh eEv σ es.isEmpty (tameL 0 es)).1) (fun c hc => fresh_new _ _ _ _ c hc) hp 100 0 (fresh eEv σ es.isEmpty (tameL 0 es)).2 (by omega) (by omega) (by rw [List.take_zero, List.drop_zero, List.nil_append]; exact ho) (fresh_pre ..) (fun j e hj => by omega)
    rw [hn]
    rw [ho.len] at hr
    exact ⟨σ1, call_ok ok hK (hr.trans g)⟩
end Go.Abs.TB
