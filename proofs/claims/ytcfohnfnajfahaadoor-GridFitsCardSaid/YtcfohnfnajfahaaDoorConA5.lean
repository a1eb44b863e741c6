/-
Contracts of Tame, of the reference's Mend, of Whole.
-/
import Derived.Test.YtcfohnfnajfahaaDoorConA4
import Derived.Test.YtcfohnfnajfahaaDoorAbs28
namespace Go.Abs.TA
open Go Go.Abs Go.Proofs

def tameC (c : api_Cell) : api_Cell := ⟨if c.Rune ≠ 0 ∧ rightR c.Rune = false then 120 else c.Rune, if okS c.Style = true then c.Style else ⟨false, false, false, 0, 0⟩⟩
def c_law08_Tame : C_law08_Tame := { ref08_Style := w_ref08_Style, ref07_Right := w_ref07_Right }
theorem law08_Tame_loop {R : Type} {L : Nat} {l : Sl} {σ0 : Heap} {K : AVal → Heap → Option R} {xs : List api_Cell} (hl : l.Is eCell σ0 xs) (hb : xs.length ≤ 1000000) :
    ∀ (d i m : Nat) (out : Sl) (σ : Heap), i + d = xs.length → d < m → Mine eCell σ0 out σ ((xs.take i).map tameC) → out.b.isNone = decide (i = 0) →
      ∃ out1 σ1, Mine eCell σ0 out1 σ1 (xs.map tameC) ∧ out1.b.isNone = decide (xs = []) ∧ law08_Tame_L3 c_law08_Tame L m out l (i : Int) σ K = K (.slice out1.b out1.o out1.n 6) σ1
  | d, i, 0, _, _, _, h, _, _ => by omega
  | 0, i, m + 1, out, σ, h, _, ho, hn => by
    refine ⟨out, σ, ?_, ?_, ?_⟩
    · rw [List.take_of_length_le (by omega)] at ho; exact ho
    · rw [hn]
      have : i = xs.length := by omega
      subst this
      cases xs <;> simp
    · rw [law08_Tame_L3_eq, hl.n, lt_false (by omega)]
      rfl
  | d + 1, i, m + 1, out, σ, h, hm, ho, hn => by
    have hi : i < xs.length := by omega
    have hx := List.getElem?_eq_getElem hi
    have hl' := hl.pre ho.pre
    obtain ⟨b, hb', f0, f1, f2, f3, f4, f5⟩ := cell_at hl' hx
    obtain ⟨q, σ', ha, hM⟩ := ho.append (zs := [tameC xs[i]]) (bytes := 32) (vs := (tameC xs[i]).cells) (k := 1) rfl rfl (by simp; omega) (by simp; omega)
    have e : (xs.take i).map tameC ++ [tameC xs[i]] = (xs.take (i + 1)).map tameC := by rw [List.take_succ_eq_append_getElem hi, List.map_append]; rfl
    rw [e] at hM
    obtain ⟨out1, σ1, k1, k2, k3⟩ := law08_Tame_loop (L := L) (K := K) hl hb d (i + 1) m ⟨q.1, q.2.1, q.2.2⟩ σ' (by omega) (by omega) hM (by
      rw [Own.some_of_ne hM.own (by rw [← e]; simp)]
      simp)
    refine ⟨out1, σ1, k1, k2, ?_⟩
    have p1 : c_law08_Tame.ref08_Style = w_ref08_Style := rfl
    have p2 : c_law08_Tame.ref07_Right = w_ref07_Right := rfl
    rw [law08_Tame_L3_eq]
    simp only [hl.n, dec0, lt_true hi, Bool.and_self, cond_true, hb', Option.bind_some, Int.toNat_natCast, f0, f1, f2, f3, f4, f5, int?, bool?, if_true, p1, p2, w_ref08_Style, w_ref07_Right, wrap_i64_succ i (by omega)]
    have fin : ∀ (r : Int) (b0 b1 b2 : Bool) (f k : Int), (⟨r, ⟨b0, b1, b2, f, k⟩⟩ : api_Cell) = tameC xs[i] → ((σ.append out.b out.o out.n 6 32 [.int .i32 r, .bool b0, .bool b1, .bool b2, .int .i64 f, .int .i64 k] 1).bind fun q =>
        law08_Tame_L3 c_law08_Tame L m ⟨q.1.1, q.1.2.1, q.1.2.2⟩ l ((i + 1 : Nat) : Int) q.2 K) = K (.slice out1.b out1.o out1.n 6) σ1 := fun r b0 b1 b2 f k hc => by
      rw [← hc] at ha
      have ha' : σ.append out.b out.o out.n 6 32 [.int .i32 r, .bool b0, .bool b1, .bool b2, .int .i64 f, .int .i64 k] 1 = some (q, σ') := ha
      rw [ha', Option.bind_some]
      exact k3
    cases c1 : okS xs[i].Style <;> cases c2 : (xs[i].Rune != 0) <;> cases c3 : rightR xs[i].Rune
    all_goals
      simp only [Bool.not_true, Bool.not_false, cond_true, cond_false]
      refine fin _ _ _ _ _ _ ?_
      simp at c2
      simp [tameC, c1, c2, c3]
noncomputable def w_law08_Tame (s : Sl) (σ : Heap) : Option (Sl × Heap) := wOf (fun xs => s.Is eCell σ xs ∧ xs.length ≤ 1000000) fun xs => fresh eCell σ (decide (xs = [])) (xs.map tameC)
theorem w_law08_Tame_eq {s : Sl} {σ : Heap} {xs : List api_Cell} (h : s.Is eCell σ xs) (hl : xs.length ≤ 1000000) : w_law08_Tame s σ = some (fresh eCell σ (decide (xs = [])) (xs.map tameC)) :=
  wOf_eq ⟨h, hl⟩ fun y hy => by rw [hy.1.uniq (by decide) h]
theorem ok_law08_Tame : Ok_law08_Tame w_law08_Tame := fun s σ v σ' h => by
  obtain ⟨xs, ⟨hs, hl⟩, e⟩ := wOf_some h
  obtain ⟨rfl, rfl⟩ : v = (fresh eCell σ (decide (xs = [])) (xs.map tameC)).1 ∧ σ' = (fresh eCell σ (decide (xs = [])) (xs.map tameC)).2 := by rw [e]; exact ⟨rfl, rfl⟩
  obtain ⟨out, σ1, k1, k2, k3⟩ := law08_Tame_loop (R := AVal × Heap) (L := xs.length + 1) (K := fun v σ => some (v, σ)) hs hl xs.length 0 (xs.length + 1) ⟨none, 0, 0⟩ σ (by simp) (by omega) (Mine.start σ) rfl
  exact call_mine (call_ok ok (K_law08_Tame c_law08_Tame ok_ref08_Style ok_ref07_Right) (L := xs.length + 1) (n := 2) ((law08_Tame_eq c_law08_Tame (xs.length + 1) s σ _).trans k3)) k1 k2.symm
end Go.Abs.TA
