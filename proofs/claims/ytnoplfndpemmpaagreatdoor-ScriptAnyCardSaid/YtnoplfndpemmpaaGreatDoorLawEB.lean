/-
The law's fit as a contract; ScriptBack.
-/
import Derived.Test.YtnoplfndpemmpaaGreatDoorMConY
import Derived.Test.YtnoplfndpemmpaaGreatDoorRun7
namespace Go.Abs.TE
open Go Go.Abs Go.Proofs
/-- The globals that the run reads lie in memory. -/
def PowE (σ : Heap) : Prop := ∀ b, b < 13 → σ[b]? = heap0[b]?
theorem heap0_ren {b : Nat} {x : Blk} (h : heap0[b]? = some x) (r : Nat → Nat) : x.frz = x ∧ x.ren r = x ∧ x.isRW = false := by
  match b, h with
  | 0, h | 1, h | 2, h | 3, h | 6, h | 7, h | 8, h | 9, h | 10, h | 11, h | 12, h => simp [heap0] at h; subst h; exact ⟨rfl, rfl, rfl⟩
  | 4, h =>
    obtain rfl : _ = x := Option.some.inj h
    exact ⟨rfl, by show Blk.row (rens r _) _ = _; rw [flats_ren (by rfl)], rfl⟩
  | 5, h =>
    obtain rfl : _ = x := Option.some.inj h
    exact ⟨rfl, by show Blk.row (rens r _) _ = _; rw [flats_ren (by rfl)], rfl⟩
  | b + 13, h => simp [heap0] at h
noncomputable def w_law25_fit (σ : Heap) : Option (Bool × Heap) := wIf (PowE σ) (true, σ)
theorem globLt (g : Nat) (h : T.glob g = true) : g < 13 := by
  have : memN [0, 1, 2, 3, 4, 5, 6, 7, 8, 9, 10, 11, 12] g = true := h
  have := memN_mem this
  simp at this; omega
theorem ok_law25_fit : Ok_law25_fit w_law25_fit := fun σ v σ' h => by
  obtain ⟨hp, e⟩ := wIf_some h
  injection e with e1 e2
  subst e1; subst e2
  obtain ⟨σ1, h1⟩ := fit_heap0
  refine call_frame_flat h1 rfl (fun b x hx => (heap0_ren hx id).2.2) (fun b => b) (fun b x hx => ⟨x, ?_, ?_⟩) fun g hg => ⟨rfl, globLt g hg⟩
  · have hb : b < 13 := (List.getElem?_eq_some_iff.1 hx).1
    rw [hp b hb]; exact hx
  · exact (heap0_ren hx (fun b => b)).1.trans (heap0_ren hx _).2.1.symm
theorem opB_len_le {o : POp} (h : o.Tame) : (opB o).length ≤ 500 := by
  have h1 := h.k; have h2 := h.c; have h3 := h.p; have h4 := h.n; have h5 := h.w; have h6 := h.h; have h7 := h.d
  have v1 := vput_len10 (n := o.k) (by omega)
  have v2 := vput_len10 (n := o.c) (by omega)
  have v3 := vput_len10 (n := o.p) (by omega)
  have v4 := vput_len10 (n := o.n) (by omega)
  have v5 := vput_len10 (n := o.w) (by omega)
  have v6 := vput_len10 (n := o.h) (by omega)
  have v7 := vput_len10 (n := o.d.length) (by omega)
  simp only [opB, List.length_append]
  omega
theorem opsB_len_le : ∀ {l : List POp}, (∀ o ∈ l, o.Tame) → (opsB l).length ≤ 500 * l.length
  | [], _ => by simp [opsB]
  | o :: l, h => by
    have h1 := opB_len_le (h o List.mem_cons_self)
    have h2 := opsB_len_le (l := l) fun q hq => h q (List.mem_cons_of_mem _ hq)
    simp only [opsB, List.length_append, List.length_cons]
    omega
theorem opsB_len_ge : ∀ (l : List POp), l.length ≤ (opsB l).length
  | [] => by simp
  | o :: l => by
    have h1 := opB_len o
    have h2 := opsB_len_ge l
    simp only [opsB, List.length_append, List.length_cons]
    omega
theorem decA_put {l : List POp} (h : ∀ o ∈ l, o.Tame) : decA (opsB l) = l.map opA := by
  have h1 := opsB_len_ge l
  unfold decA
  have h2 := decV_put l ((opsB l).length + 1 - l.length) [] h
  rw [List.append_nil, decV_nil, List.append_nil, Nat.sub_add_cancel (by omega)] at h2
  rw [h2]
theorem decA_put9 {l : List POp} (h : ∀ o ∈ l, o.Tame) : decA (opsB l ++ [9]) = l.map opA := by
  have h1 := opsB_len_ge l
  unfold decA
  have h2 := decV_put l ((opsB l).length + 1 - l.length + 1) [9] h
  rw [decV_stop take9, List.append_nil, show (opsB l).length + 1 - l.length + 1 + l.length = (opsB l ++ [9]).length + 1 by simp; omega] at h2
  rw [h2]
theorem decA_cut {l : List POp} (h : ∀ o ∈ l, o.Tame) {k : Nat} (hk : k < (opsB l).length) : ∃ j, j < l.length ∧ decA ((opsB l).take k) = (l.map opA).take j := by
  obtain ⟨j, h1, h2⟩ := decV_cut l (k + 1) k h hk (by omega)
  refine ⟨j, h1, ?_⟩
  unfold decA
  rw [List.length_take, Nat.min_eq_left (by omega), h2, List.map_take]
theorem fresh_is {α : Type} (E : El α) (σ : Heap) {nil : Bool} {ys : List α} (h : nil = true → ys = []) (hl : ys.length ≤ 1000000) : (fresh E σ nil ys).1.Is E (fresh E σ nil ys).2 ys := (fresh_own E σ nil ys h).is (by omega)
theorem isEmpty_nil {α : Type} {l : List α} (h : l.isEmpty = true) : l = [] := List.isEmpty_iff.1 h
noncomputable def c_ScriptBack : C_law25_ScriptBack := ⟨w_law25_fit, w_law25_Tame, w_script_Encode, w_law25_same, w_script_Decode⟩
theorem law_ScriptBack (l : Sl) (cut : Int) {σ : Heap} (hp : PowE σ) {xs : List api_Op} (hn : l.n = xs.length) (hI : xs.length ≤ 1099511627776 → l.Is eOp σ xs) : ∃ σ1, CallOK Tryz.prog T 3 [(tSl 7).av l, (tInt .i64).av cut] σ (tBool.av true) σ1 := by
  have hK := K_law25_ScriptBack c_ScriptBack ok_law25_fit ok_law25_Tame ok_script_Encode ok_law25_same ok_script_Decode
  have hr := law25_ScriptBack_eq (R := AVal × Heap) c_ScriptBack 0 l cut σ fun v σ => some (v, σ)
  obtain ⟨X, hX⟩ : ∃ X, X = callC (R := AVal × Heap) T (O_law25_ScriptBack c_ScriptBack) 0 2 3 [.slice l.b l.o l.n 7, .int .i64 cut] σ fun v σ => some (v, σ) := ⟨_, rfl⟩
  rw [← hX] at hr
  have q1 : c_ScriptBack.law25_fit = w_law25_fit := rfl
  have q2 : c_ScriptBack.law25_Tame = w_law25_Tame := rfl
  have q3 : c_ScriptBack.script_Encode = w_script_Encode := rfl
  have q4 : c_ScriptBack.law25_same = w_law25_same := rfl
  have q5 : c_ScriptBack.script_Decode = w_script_Decode := rfl
  have hfit : w_law25_fit σ = some (true, σ) := wIf_eq hp
  rw [q1, q2, q3, q4, q5, hfit, Option.bind_some, Bool.not_true, cond_false, hn] at hr
  by_cases h60 : xs.length > 60
  · rw [decide_eq_true (show (xs.length : Int) > 60 by omega), cond_true] at hr
    exact ⟨_, call_ok ok hK (hX.symm.trans hr)⟩
  rw [decide_eq_false (show ¬ (xs.length : Int) > 60 by omega), cond_false] at hr
  have hl := hI (by omega)
  have hT : ∀ o ∈ tameL xs, o.Tame := fun o ho => by
    obtain ⟨a, _, rfl⟩ := List.mem_map.1 ho
    exact tameP_tame a
  have hlen : (tameL xs).length = xs.length := by simp [tameL]
  have hnil : xs.isEmpty = true → (tameL xs).map opA = [] := fun h => by rw [isEmpty_nil h]; rfl
  rw [w_law25_Tame_eq hl (by omega), Option.bind_some] at hr
  have i4 := fresh_is eOp σ hnil (by simp; omega)
  generalize fresh eOp σ xs.isEmpty ((tameL xs).map opA) = g4 at hr i4
  generalize tameL xs = ops at hT hlen hnil hr i4
  have hb := opsB_len_le hT
  have hn4 : g4.1.n = ops.length := by rw [i4.n, List.length_map]
  rw [w_script_Encode_eq i4 hT (by omega), Option.bind_some] at hr
  have i5 := fresh_is eU8 g4.2 (nil := (opsB ops).isEmpty) isEmpty_nil (by omega)
  have pre5 := fresh_pre eU8 g4.2 (opsB ops).isEmpty (opsB ops)
  generalize fresh eU8 g4.2 (opsB ops).isEmpty (opsB ops) = g5 at hr i5 pre5
  rw [w_script_Decode_eq i5 (by omega), Option.bind_some, decA_put hT] at hr
  have i6 := fresh_is eOp g5.2 (nil := (ops.map opA).isEmpty) isEmpty_nil (by simp; omega)
  have pre6 := fresh_pre eOp g5.2 (ops.map opA).isEmpty (ops.map opA)
  generalize fresh eOp g5.2 (ops.map opA).isEmpty (ops.map opA) = g6 at hr i6 pre6
  have i4a := (i4.pre pre5).pre pre6
  have i5a := i5.pre pre6
  rw [w_law25_same_eq i6 i4a, Option.bind_some, decide_eq_true rfl, Bool.not_true, cond_false, hn4, i5.n] at hr
  by_cases h0 : ops = []
  · subst h0
    exact ⟨_, call_ok ok hK (hX.symm.trans (hr.trans rfl))⟩
  have hpos : 0 < ops.length := List.length_pos_iff.2 h0
  have hge := opsB_len_ge ops
  rw [show ((ops.length : Int) == 0) = false by rw [beq_eq_false_iff_ne]; omega, cond_false, if_neg (by omega)] at hr
  have hcut := and_wrap cut (m := 16777215) (by decide)
  rw [show ((16777215 : Nat) : Int) = 16777215 from rfl] at hcut
  rw [hcut, show Int.tmod (andN cut 16777215 : Int) ((opsB ops).length : Int) = ((andN cut 16777215 % (opsB ops).length : Nat) : Int) from rfl] at hr
  have hk : andN cut 16777215 % (opsB ops).length < (opsB ops).length := Nat.mod_lt _ (by omega)
  generalize andN cut 16777215 % (opsB ops).length = k at hr hk
  rw [dec0, Bool.true_and, le_true (by omega), cond_true, Int.toNat_natCast] at hr
  have i5k := i5a.take (k := k) (by omega)
  rw [w_script_Decode_eq i5k (by simp; omega), Option.bind_some] at hr
  obtain ⟨j, hj, ej⟩ := decA_cut hT hk
  rw [ej] at hr
  have i8 := fresh_is eOp g6.2 (nil := ((ops.map opA).take j).isEmpty) isEmpty_nil (by simp; omega)
  have pre8 := fresh_pre eOp g6.2 ((ops.map opA).take j).isEmpty ((ops.map opA).take j)
  generalize fresh eOp g6.2 ((ops.map opA).take j).isEmpty ((ops.map opA).take j) = g8 at hr i8 pre8
  have hn8 : g8.1.n = j := by rw [i8.n, List.length_take, List.length_map, Nat.min_eq_left (by omega)]
  have i4b := i4a.pre pre8
  rw [hn8, lt_true hj, cond_true, dec0, Bool.true_and, le_true (by omega), cond_true, w_law25_same_eq i8 (i4b.take (k := j) (by simp; omega)), Option.bind_some, decide_eq_true rfl, cond_true, w_script_Encode_eq i4b hT (by omega), Option.bind_some] at hr
  have o10 := fresh_own eU8 g8.2 (opsB ops).isEmpty (opsB ops) isEmpty_nil
  have pre10 := fresh_pre eU8 g8.2 (opsB ops).isEmpty (opsB ops)
  have new10 := fresh_new eU8 g8.2 (opsB ops).isEmpty (opsB ops)
  generalize fresh eU8 g8.2 (opsB ops).isEmpty (opsB ops) = g10 at hr o10 pre10 new10
  obtain ⟨q, σ2, a1, a2, a3, a4⟩ := append_own o10 (ys := [9]) (bytes := 1) (vs := [.int .u8 9]) (k := 1) rfl rfl (by simp; omega) (by simp; omega)
  have a1' : g10.2.append g10.1.b g10.1.o g10.1.n 1 1 [.int .u8 9] 1 = some (q, σ2) := a1
  rw [a1', Option.bind_some, w_script_Decode_eq (a2.is (by simp; omega)) (by simp; omega), Option.bind_some, decA_put9 hT] at hr
  have i12 := fresh_is eOp σ2 (nil := (ops.map opA).isEmpty) isEmpty_nil (by simp; omega)
  have pre12 := fresh_pre eOp σ2 (ops.map opA).isEmpty (ops.map opA)
  generalize fresh eOp σ2 (ops.map opA).isEmpty (ops.map opA) = g12 at hr i12 pre12
  have i4c := ((i4b.pre pre10).kept a3 (fun b hb e => by
    have := new10 b hb
    have := i4b.lt e
    omega)).pre pre12
  rw [w_law25_same_eq i12 i4c, Option.bind_some, decide_eq_true rfl] at hr
  exact ⟨_, call_ok ok hK (hX.symm.trans hr)⟩
end Go.Abs.TE
