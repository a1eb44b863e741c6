/-
ScriptAny.
-/
import Derived.Test.YtnoplfndpemmpaaGreatDoorLawEB
namespace Go.Abs.TE
open Go Go.Abs Go.Proofs
theorem is_turn {α : Type} {E : El α} {s : Sl} {σ σ' : Heap} {xs : List α} {p : Nat} (h : s.Is E σ xs) (hk : ∀ b, b < σ.length → b ≠ p → σ'[b]? = σ[b]?) (hne : s.b ≠ some p) : s.Is E σ' xs :=
  h.of_row fun b cs hb hr => by rw [row?_congr (hk b (row?_lt hr) fun e => hne (by rw [hb, e]))]; exact hr
noncomputable def c_ScriptAny : C_law25_ScriptAny := ⟨w_law25_fit, w_script_Encode, w_script_Decode, w_vary_Of, w_law25_take⟩
theorem ScriptAny_loop {L : Nat} {b l : Sl} {p : Nat} {xs ys : List UInt8} {ops : List POp} (hx : xs = opsB ops ++ ys) (hxl : xs.length ≤ 1000) (hT : ∀ o ∈ ops, o.Tame) (hno : (takeV (some ys)).2 = none) (hbp : b.b ≠ some p) (hlp : l.b ≠ some p) :
    ∀ (d i m : Nat) (σ : Heap), i + d = ops.length → d < m → b.Is eU8 σ xs → l.Is eOp σ (ops.map opA) → RdAt σ p b.b (some (opsB (ops.drop i) ++ ys)) →
      ∃ σ', law25_ScriptAny_L8 c_ScriptAny L m b l (some (p, 0)) l (ops.length : Int) (i : Int) σ (fun v σ => some (v, σ)) = some (.bool true, σ')
  | d, i, 0, _, _, h, _, _, _ => by omega
  | 0, i, m + 1, σ, h, _, hb, hl, hR => by
    have p1 : c_ScriptAny.script_Encode = w_script_Encode := rfl
    have p2 : c_ScriptAny.law25_take = w_law25_take := rfl
    have hlen : (opsB ops).length ≤ xs.length := by rw [hx, List.length_append]; omega
    rw [law25_ScriptAny_L8_eq, p1, p2, lt_false (by omega), cond_false, w_script_Encode_eq hl hT (by omega), Option.bind_some]
    have i1 := fresh_is eU8 σ (nil := (opsB ops).isEmpty) isEmpty_nil (by omega)
    have pre1 := fresh_pre eU8 σ (opsB ops).isEmpty (opsB ops)
    have new1 := fresh_new eU8 σ (opsB ops).isEmpty (opsB ops)
    generalize fresh eU8 σ (opsB ops).isEmpty (opsB ops) = g at i1 pre1 new1
    have hlt := hR.lt
    obtain ⟨v, σ1, e1, t1⟩ := law25_take_at (hR.pre pre1)
    rw [List.drop_eq_nil_of_le (by omega), opsB, List.nil_append] at t1
    have hv : v.2 = false := by rw [t1.op, hno]; rfl
    have ib := is_turn (hb.pre pre1) t1.kept hbp
    have ig := is_turn i1 t1.kept (fun e => by have := new1 p e; omega)
    rw [e1, Option.bind_some]
    simp only [hv, Bool.not_false, cond_true, i1.n, hb.n, le_true hlen, dec0, Bool.and_self]
    have r1 := ib.readn (m := (opsB ops).length) hlen
    have r2 : Heap.read σ1 g.1.b g.1.o (opsB ops).length 1 = some (eU8.all (opsB ops)) := by have := ig.read; rw [ig.n] at this; exact this
    have r1' : Heap.read σ1 b.b b.o (opsB ops).length 1 = some (eU8.all (xs.take (opsB ops).length)) := r1
    rw [r1', Option.bind_some, bytes_all, Option.bind_some, r2, Option.bind_some, bytes_all, Option.bind_some, hx, List.take_left, beq_self_eq_true]
    exact ⟨_, rfl⟩
  | d + 1, i, m + 1, σ, h, hm, hb, hl, hR => by
    have p2 : c_ScriptAny.law25_take = w_law25_take := rfl
    have hi : i < ops.length := by omega
    have hlen : ops.length ≤ 1000 := by have := opsB_len_ge ops; rw [hx, List.length_append] at hxl; omega
    obtain ⟨q, hq, c0, c1, c2, c3, c4, c5, c6⟩ := op_cells hl (i := i) (x := opA ops[i]) (by rw [List.getElem?_map, List.getElem?_eq_getElem hi]; rfl)
    obtain ⟨v, σ1, e1, t1⟩ := law25_take_at hR
    rw [List.drop_eq_getElem_cons hi, opsB, List.append_assoc] at t1
    have ht := takeV_put (hT ops[i] (List.getElem_mem hi)) (opsB (ops.drop (i + 1)) ++ ys)
    have hat := t1.at_
    have hop := t1.op
    rw [ht] at hat hop
    obtain ⟨σ', k⟩ := ScriptAny_loop (L := L) hx hxl hT hno hbp hlp d (i + 1) m σ1 (by omega) (by omega) (is_turn hb t1.kept hbp) (is_turn hl t1.kept hlp) hat
    refine ⟨σ', ?_⟩
    rw [law25_ScriptAny_L8_eq, p2, hl.n, List.length_map]
    simp only [lt_true hi, cond_true, dec0, Bool.and_self, hq, Option.bind_some, Int.toNat_natCast, c0, c1, c2, c3, c4, c5, c6, int?, str?, if_true, e1, hop, Option.isSome_some, Bool.not_true, cond_false, op_beq, decide_true]
    rw [wrap_i64_succ i (by omega)]
    exact k
theorem law_ScriptAny (b : Sl) {σ : Heap} (hp : PowE σ) {xs : List UInt8} (hn : b.n = xs.length) (hI : xs.length ≤ 1099511627776 → b.Is eU8 σ xs) : ∃ σ1, CallOK Tryz.prog T 4 [(tSl 1).av b] σ (tBool.av true) σ1 := by
  have hK := K_law25_ScriptAny c_ScriptAny ok_law25_fit ok_script_Encode ok_script_Decode ok_vary_Of ok_law25_take
  have hr := law25_ScriptAny_eq (R := AVal × Heap) c_ScriptAny 1001 b σ fun v σ => some (v, σ)
  obtain ⟨X, hX⟩ : ∃ X, X = callC (R := AVal × Heap) T (O_law25_ScriptAny c_ScriptAny) 1001 2 4 [.slice b.b b.o b.n 1] σ fun v σ => some (v, σ) := ⟨_, rfl⟩
  rw [← hX] at hr
  have q1 : c_ScriptAny.law25_fit = w_law25_fit := rfl
  have q2 : c_ScriptAny.script_Decode = w_script_Decode := rfl
  have q3 : c_ScriptAny.vary_Of = w_vary_Of := rfl
  have hfit : w_law25_fit σ = some (true, σ) := wIf_eq hp
  rw [q1, q2, q3, hfit, Option.bind_some, Bool.not_true, cond_false, hn] at hr
  by_cases h : xs.length > 1000
  · rw [decide_eq_true (show (xs.length : Int) > 1000 by omega), cond_true] at hr
    exact ⟨_, call_ok ok hK (hX.symm.trans hr)⟩
  rw [decide_eq_false (show ¬ (xs.length : Int) > 1000 by omega), cond_false] at hr
  have hb := hI (by omega)
  rw [w_script_Decode_eq hb (by omega), Option.bind_some] at hr
  obtain ⟨hT, ys, hx, hno⟩ := decV_sound (xs.length + 1) xs (by omega)
  have hd : decA xs = (decV (xs.length + 1) xs).map opA := rfl
  rw [hd] at hr
  have hlen : (decV (xs.length + 1) xs).length ≤ xs.length := by
    have := opsB_len_ge (decV (xs.length + 1) xs)
    have := congrArg List.length hx
    rw [List.length_append] at this
    omega
  generalize decV (xs.length + 1) xs = ops at hT hx hno hr hlen
  have i3 := fresh_is eOp σ (nil := (ops.map opA).isEmpty) (ys := ops.map opA) isEmpty_nil (by simp; omega)
  have pre3 := fresh_pre eOp σ (ops.map opA).isEmpty (ops.map opA)
  generalize fresh eOp σ (ops.map opA).isEmpty (ops.map opA) = g3 at hr i3 pre3
  have b3 := hb.pre pre3
  have pre4 := pre_push g3.2 (.row [.slice b.b b.o b.n 1, .bool false] .rw)
  have hbp : b.b ≠ some g3.2.length := fun e => by have := b3.lt e; omega
  have hlp : g3.1.b ≠ some g3.2.length := fun e => by have := i3.lt e; omega
  have hR : RdAt (g3.2 ++ [.row [.slice b.b b.o b.n 1, .bool false] .rw]) g3.2.length b.b (some (opsB (ops.drop 0) ++ ys)) := ⟨b, xs, get_push .., b3.pre pre4, rfl, hbp, .inr (by rw [List.drop_zero, hx])⟩
  obtain ⟨σ', k⟩ := ScriptAny_loop (L := 1001) hx (by omega) hT hno hbp hlp ops.length 0 1001 _ (by omega) (by omega) (b3.pre pre4) (i3.pre pre4) hR
  have hn3 : g3.1.n = ops.length := by rw [i3.n, List.length_map]
  rw [hn3] at hr
  exact ⟨σ', call_ok ok hK (hX.symm.trans (hr.trans k))⟩
end Go.Abs.TE
