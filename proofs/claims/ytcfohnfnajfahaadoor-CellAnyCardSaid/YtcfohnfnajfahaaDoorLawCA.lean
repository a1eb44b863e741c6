/-
CellAny answers true.
-/
import Derived.Test.YtcfohnfnajfahaaDoorMConD
import Derived.Test.YtcfohnfnajfahaaDoorMConA
namespace Go.Abs.TA
open Go Go.Abs Go.Proofs

theorem bytes_all : ∀ (xs : List UInt8), bytesOf (eU8.all xs) = some xs
  | [] => rfl
  | x :: xs => by
    rw [El.all_cons]
    show (bytesOf (eU8.all xs)).map (fun l => UInt8.ofNat ((x.toNat : Int)).toNat :: l) = _
    rw [bytes_all xs]
    simp
theorem of_rdr (σ : Heap) (b : Sl) : Rdr (σ ++ [.row [.slice b.b b.o b.n 1, .bool false] .rw]) σ.length b false := get_push ..
theorem But.pre {σ0 σ σ' : Heap} {p : Nat} (h : But p σ σ') (hp : σ0 <+: σ) (hl : σ0.length ≤ p) : σ0 <+: σ' := by
  have := hp.length_le
  refine pre_of_get (Nat.le_trans this h.1) fun b hb => ?_
  rw [h.2 b (by omega) (by omega)]
  exact get_pre hp hb
theorem i64_and63 (w : Int) : ∃ k : Nat, k ≤ 63 ∧ IntKind.i64.wrap (BitVec.ofInt IntKind.i64.bits w &&& BitVec.ofInt IntKind.i64.bits 63).toNat = (k : Int) := by
  refine ⟨(BitVec.ofInt IntKind.i64.bits w &&& BitVec.ofInt IntKind.i64.bits 63).toNat, ?_, ?_⟩
  · rw [BitVec.toNat_and]
    exact Nat.and_le_right
  · refine wrap_i64_nat _ ?_
    have : (BitVec.ofInt IntKind.i64.bits w &&& BitVec.ofInt IntKind.i64.bits 63).toNat ≤ 63 := by
      rw [BitVec.toNat_and]
      exact Nat.and_le_right
    omega
noncomputable def c_CellAny : C_law08_CellAny := { law08_fit := w_law08_fit, cell_Whole := w_cell_Whole, vary_Of := w_vary_Of, cell_TakeLine := w_cell_TakeLine, cell_PutLine := w_cell_PutLine }
theorem law_CellAny (b : Sl) (w : Int) {σ : Heap} {xs : List UInt8} (hn : b.n = xs.length) (hI : xs.length ≤ 1099511627776 → b.Is eU8 σ xs) (hw : WideOK σ) :
    ∃ σ1, CallOK Tryd.prog T 10 [(tSl eU8.z).av b, (tInt .i64).av w] σ (tBool.av true) σ1 := by
  have hK := K_law08_CellAny c_CellAny ok_law08_fit ok_cell_Whole ok_vary_Of ok_cell_TakeLine ok_cell_PutLine
  have p1 : c_CellAny.law08_fit = w_law08_fit := rfl
  have p2 : c_CellAny.cell_Whole = w_cell_Whole := rfl
  have p3 : c_CellAny.vary_Of = w_vary_Of := rfl
  have p4 : c_CellAny.cell_TakeLine = w_cell_TakeLine := rfl
  have p5 : c_CellAny.cell_PutLine = w_cell_PutLine := rfl
  have go : ∃ σ1, callC (R := AVal × Heap) T (O_law08_CellAny c_CellAny) 0 2 10 [.slice b.b b.o b.n 1, .int .i64 w] σ (fun v σ => some (v, σ)) = some (.bool true, σ1) := by
    rw [law08_CellAny_eq, p1, w_law08_fit_eq hw, Option.bind_some, hn]
    simp only [Bool.not_true, cond_false]
    by_cases h1 : xs.length ≤ 300
    · rw [show decide ((xs.length : Int) > 300) = false by simp; omega, cond_false]
      have hl := hI (by omega)
      obtain ⟨k, hk, ek⟩ := i64_and63 w
      rw [ek]
      simp only [p3, w_vary_Of, Option.bind_some, p4]
      have r1 := of_rdr σ b
      have pre1 : σ <+: (σ ++ [.row [.slice b.b b.o b.n 1, .bool false] .rw] : Heap) := pre_push ..
      generalize (σ ++ [.row [.slice b.b b.o b.n 1, .bool false] .rw] : Heap) = σ1 at r1 pre1 ⊢
      have l1 := hl.pre pre1
      obtain ⟨x, hx, hP⟩ := w_cell_TakeLine_ex (r := some (σ.length, 0)) (W := (k : Int)) ⟨rfl, r1, l1, by omega, by omega, hw.pre pre1, fun e => by have := hl.lt e; omega⟩
      rw [hx, Option.bind_some]
      rw [Int.toNat_natCast] at hP
      obtain ⟨⟨q, bo⟩, σ2⟩ := x
      simp only at hP ⊢
      cases hg : takeGo k k [] xs with
      | none =>
        rw [hg] at hP
        obtain ⟨e, hb⟩ := hP
        injection e with e1 e2
        subst e1; subst e2
        exact ⟨_, rfl⟩
      | some y =>
        obtain ⟨o, rest⟩ := y
        rw [hg] at hP
        obtain ⟨e, s', ht⟩ := hP
        simp only at e ht
        subst e
        obtain ⟨ys, e1, e2, e3, _, e5, e6⟩ := takeGo_spec k k [] xs o rest hg (by simp)
        rw [List.nil_append] at e1
        subst e1
        have hlen : o.length ≤ 63 := by omega
        have pre2 : σ <+: σ2 := ht.but.pre pre1 (Nat.le_refl _)
        have iq := ht.own.is (by omega)
        simp only [Bool.not_true, cond_false, p5]
        rw [w_cell_PutLine_eq (ys := []) (xs := o) ⟨.nil rfl rfl rfl rfl, iq, e3, by omega, by simp; omega, fun d hd => by simp at hd⟩, Option.bind_some, ht.own.len, e5, show (((k : Nat) : Int) == (k : Int)) = true by simp, cond_true, List.nil_append]
        have hM : Mine eU8 σ2 (if o = [] then ((⟨none, 0, 0⟩ : Sl), σ2) else grow eU8 σ2 ⟨none, 0, 0⟩ (lineB o)).1 (if o = [] then ((⟨none, 0, 0⟩ : Sl), σ2) else grow eU8 σ2 ⟨none, 0, 0⟩ (lineB o)).2 (lineB o) := by
          split
          · rename_i e
            subst e
            rw [lineB_nil]
            exact Mine.start σ2
          · exact ⟨pre_push .., grow_own, fun d hd => by rw [grow_fst] at hd; simp at hd; omega⟩
        generalize (if o = [] then ((⟨none, 0, 0⟩ : Sl), σ2) else grow eU8 σ2 ⟨none, 0, 0⟩ (lineB o)) = q6 at hM ⊢
        have pre3 := pre2.trans hM.pre
        have hle : (lineB o).length ≤ xs.length := by rw [e2]; simp
        rw [p2, w_cell_Whole_eq (iq.pre hM.pre) (hw.pre pre3), Option.bind_some, e6, hM.own.len]
        simp only [cond_true]
        rw [show decide (((lineB o).length : Int) ≤ (xs.length : Int)) = true by simpa using hle, show decide ((0 : Int) ≤ ((lineB o).length : Int)) = true by simp]
        simp only [Bool.and_self, cond_true]
        have g1 : q6.2.read b.b b.o (lineB o).length 1 = some (eU8.all (xs.take (lineB o).length)) := (hl.pre pre3).readn hle
        have g2 : q6.2.read q6.1.b q6.1.o (lineB o).length 1 = some (eU8.all (lineB o)) := by
          have := (hM.own.is (by omega)).read
          rw [hM.own.len] at this
          exact this
        rw [g1, Option.bind_some, bytes_all, Option.bind_some, g2, Option.bind_some, bytes_all, Option.bind_some]
        have g3 : xs.take (lineB o).length = lineB o := by rw [e2]; exact List.take_left
        rw [g3, beq_self_eq_true]
        exact ⟨_, rfl⟩
    · rw [show decide ((xs.length : Int) > 300) = true by simp; omega, cond_true]
      exact ⟨_, rfl⟩
  obtain ⟨σ1, h⟩ := go
  exact ⟨σ1, call_ok ok hK h⟩
theorem conv_u8 (r : List AVal) (h : ShOKs [.int .u8] r) : ∃ a, eU8.en a = r ∧ True := by
  obtain ⟨_, _, rfl, ⟨n, rfl, hw⟩, rfl⟩ := h
  simp only [Lit.wf, Bool.and_eq_true, decide_eq_true_eq] at hw
  have h1 : IntKind.u8.min = 0 := by decide
  have h2 : IntKind.u8.max = 255 := by decide
  refine ⟨UInt8.ofNat n.toNat, ?_, trivial⟩
  show [AVal.int .u8 ((UInt8.ofNat n.toNat).toNat : Int)] = _
  rw [ofNat_toNat (by omega)]
  congr 2
  omega
end Go.Abs.TA
