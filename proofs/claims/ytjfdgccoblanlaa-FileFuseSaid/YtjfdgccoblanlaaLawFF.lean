/-
The law FileFuse, on the machine.
-/
import Derived.Test.YtjfdgccoblanlaaMConJ
namespace Go.Abs.TC
open Go Go.Abs Go.Proofs

noncomputable def c_law04_FileFuse : C_law04_FileFuse := { law04_fit := w_law04_fit, law04_short := w_law04_short, file_New := w_file_New, law04_do := w_law04_do, file_Store_Crash := w_file_Store_Crash, file_Store_Append := w_file_Store_Append, law04_Call_kind := w_law04_Call_kind, file_Store_Fuse := w_file_Store_Fuse, file_Store_Used := w_file_Store_Used, file_Store_Up := w_file_Store_Up }
theorem strZ_ok : nameOk (⟨#[122]⟩ : ByteArray) = true := by decide
theorem fuse_end (t : Sto) (hq : t.used ≤ t.quota) : ((t.crash []).append ⟨#[122]⟩ []).1 = 0 := by
  unfold Sto.append
  have h1 := (crashGo_size [] t.names 0 t.fs).1
  have h2 : (t.crash []).change.1 = 0 := rfl
  have h3 : ¬ (t.crash []).quota < (t.crash []).used + ([] : List UInt8).length := by
    rw [Sto.used_eq] at *
    show ¬ t.quota < usedL (crashGo [] t.names 0 t.fs) + 0
    omega
  rw [if_neg (show ¬ (t.crash []).down = true from (by decide : ¬ false = true)), if_neg (by rw [strZ_ok]; decide), if_neg h3, if_pos h2]
theorem fuse_loop {L s : Nat} {calls : Sl} {σ0 : Heap} {cs : List law04_Call} {ps : List PCall} (hC : CallsIs σ0 calls cs ps) :
    ∀ (k i m : Nat) (σ : Heap) (d : SD) (n : Int), i + k = cs.length → k < m → Run σ0 σ d (101 * i) → d.s = s → d.sto.armed = true → d.sto.left = n → n ≤ 1000 →
      ∃ σ', law04_FileFuse_L9 (R := AVal × Heap) c_law04_FileFuse L m n (some (s, 0)) calls (i : Int) σ (fun v σ => some (v, σ)) = some (.bool true, σ')
  | k, i, 0, σ, d, n, _, h, _, _, _, _, _ => by omega
  | 0, i, m + 1, σ, d, n, hi, _, hR, hs, ha, hn, _ => by
    have p5 : c_law04_FileFuse.file_Store_Crash = w_file_Store_Crash := rfl
    have p6 : c_law04_FileFuse.file_Store_Append = w_file_Store_Append := rfl
    have p9 : c_law04_FileFuse.file_Store_Up = w_file_Store_Up := rfl
    have hl := hC.few
    rw [law04_FileFuse_L9_eq, p5, p6, p9, hC.is.n, lt_false (by omega), cond_false]
    obtain ⟨σ1, d1, a1, a2, a3, a4, _⟩ := hR.crash0
    have b1 := a2.up
    obtain ⟨σ2, d2, c1, c2, c3, c4, _⟩ := a2.append (by omega) (nm := ⟨#[122]⟩) (xs := []) Sl.Is.nil (fun c hc => by cases hc) (by decide)
    have hu : d.sto.used ≤ d.sto.quota := by rw [d.used_sto]; exact hR.st.used
    rw [a3, fuse_end _ hu] at c1
    rw [a3] at b1
    rw [hs] at a1 a4
    rw [a4] at b1 c1
    rw [a1, Option.bind_some, b1, Option.bind_some]
    dsimp only
    rw [show (!(d.sto.crash []).down) = true from rfl, cond_true, c1, Option.bind_some]
    exact ⟨σ2, rfl⟩
  | k + 1, i, m + 1, σ, d, n, hi, hm, hR, hs, ha, hn, hle => by
    have hil : i < cs.length := by omega
    have hl := hC.few
    obtain ⟨ck, cn, cna, cto, cb, co, cl, xs, b, e1, e2, e3, e4, e5⟩ := at_call hC hil
    obtain ⟨f0, f1, f2, f3, f4⟩ := e5 σ hR.ro
    have p4 : c_law04_FileFuse.law04_do = w_law04_do := rfl
    have p7 : c_law04_FileFuse.law04_Call_kind = w_law04_Call_kind := rfl
    have p8 : c_law04_FileFuse.file_Store_Used = w_file_Store_Used := rfl
    have p9 : c_law04_FileFuse.file_Store_Up = w_file_Store_Up := rfl
    rw [law04_FileFuse_L9_eq, p4, p7, p8, p9, hC.is.n, lt_true hil, cond_true, dec0, Bool.and_true, cond_true, e4, Option.bind_some, show ((i : Nat) : Int).toNat = i from rfl, f0, Option.bind_some, f1, Option.bind_some, f2, Option.bind_some, f3, Option.bind_some, f4, Option.bind_some]
    dsimp only
    rw [w_law04_Call_kind, Option.bind_some]
    dsimp only
    by_cases hk : kindI ck < 6
    · rw [decide_eq_false (show ¬ kindI ck ≥ 6 by omega), cond_false]
      have u1 := hR.used
      have u2 := hR.up
      obtain ⟨σ1, d1, a1, a2, a3, a4, _⟩ := hR.do_ (by omega) e2
      have hA := a2.more (m := 101 * (i + 1)) (by omega)
      have u3 := hA.used
      have u4 := hA.up
      have D := doC_done d.sto ⟨ck, cn, cna, cto, xs⟩ hk
      generalize d.sto.doC ⟨ck, cn, cna, cto, xs⟩ = r at D a1 a3
      rw [a3, a4] at u3 u4
      rw [hs] at a1 a4 u1 u2 u3 u4
      have hsz := hA.left
      rw [u1, Option.bind_some, u2, Option.bind_some, a1, Option.bind_some]
      dsimp only
      cases D with
      | down hd hr =>
        subst hr
        obtain ⟨σ', r1⟩ := fuse_loop hC k (i + 1) m σ1 d1 n (by omega) (by omega) hA a4 (by rw [a3]; exact ha) (by rw [a3]; exact hn) hle
        refine ⟨σ', ?_⟩
        dsimp only at u3 u4
        rw [hd, show (!(!true)) = true from rfl, cond_true, show (((8 : Int)) != 8) = false from rfl, cond_false, u4, Option.bind_some]
        dsimp only
        rw [hd, show (!true) = false from rfl, cond_false, u3, Option.bind_some]
        dsimp only
        rw [bne_self_eq_false, cond_false, wrap_i64_succ i (by omega)]
        exact r1
      | no hd c h0 h8 hr =>
        subst hr
        obtain ⟨σ', r1⟩ := fuse_loop hC k (i + 1) m σ1 d1 n (by omega) (by omega) hA a4 (by rw [a3]; exact ha) (by rw [a3]; exact hn) hle
        refine ⟨σ', ?_⟩
        dsimp only at u3 u4
        rw [hd, show (!(!false)) = false from rfl, cond_false, show (c == 0) = false by simpa using h0, cond_false, show (c == 8) = false by simpa using h8, cond_false, u4, Option.bind_some]
        dsimp only
        rw [hd, show (!(!false)) = false from rfl, cond_false, u3, Option.bind_some]
        dsimp only
        rw [bne_self_eq_false, cond_false, wrap_i64_succ i (by omega)]
        exact r1
      | falls hd ha' hl' hr =>
        subst hr
        obtain ⟨σ', r1⟩ := fuse_loop hC k (i + 1) m σ1 d1 n (by omega) (by omega) hA a4 (by rw [a3]; exact ha) (by rw [a3]; exact hn) hle
        refine ⟨σ', ?_⟩
        dsimp only at u3 u4
        have hn0 : n = 0 := hn.symm.trans hl'
        rw [hd, show (!(!false)) = false from rfl, cond_false, show (((8 : Int)) == 0) = false from rfl, cond_false, show (((8 : Int)) == 8) = true from rfl, cond_true, show (n != 0) = false by rw [hn0]; rfl, cond_false, u4, Option.bind_some]
        dsimp only
        rw [show (!true) = false from rfl, cond_false, u3, Option.bind_some]
        dsimp only
        rw [show ((({ d.sto with down := true } : Sto).used : Int) != (d.sto.used : Int)) = false from bne_self_eq_false _, cond_false, wrap_i64_succ i (by omega)]
        exact r1
      | yes hd ha' t' hr hd' hq hat hl' hsz' =>
        subst hr
        dsimp only at u3 u4 a3
        have hn0 : n ≠ 0 := fun e => ha' ⟨ha, hn.trans e⟩
        have hlo := hR.left ha
        rw [hn] at hlo
        rw [if_pos ha, hn] at hl'
        obtain ⟨σ', r1⟩ := fuse_loop hC k (i + 1) m σ1 d1 (n - 1) (by omega) (by omega) hA a4 (by rw [a3, hat]; exact ha) (by rw [a3]; exact hl') (by omega)
        refine ⟨σ', ?_⟩
        rw [hd, show (!(!false)) = false from rfl, cond_false, show (((0 : Int)) == 0) = true from rfl, cond_true, show (n == 0) = false by simpa using hn0, cond_false, u4, Option.bind_some]
        dsimp only
        rw [hd', show (!(!false)) = false from rfl, cond_false, wrap_i64_succ i (by omega), wrap_i64_of (n := n - 1) (by omega) (by omega)]
        exact r1
    · rw [decide_eq_true (show kindI ck ≥ 6 by omega), cond_true, wrap_i64_succ i (by omega)]
      exact fuse_loop hC k (i + 1) m σ d n (by omega) (by omega) (hR.more (by omega)) hs ha hn hle
theorem law_FileFuse {σ0 : Heap} (n : Int) {calls : Sl} {cs : List law04_Call} {ps : List PCall} (hA : CallsArg σ0 calls cs ps) : ∃ σ1, CallOK Try.prog T 4 [.int .i64 n, .slice calls.b calls.o calls.n 5] σ0 (.bool true) σ1 := by
  have p1 : c_law04_FileFuse.law04_fit = w_law04_fit := rfl
  have p2 : c_law04_FileFuse.law04_short = w_law04_short := rfl
  have p3 : c_law04_FileFuse.file_New = w_file_New := rfl
  have p8 : c_law04_FileFuse.file_Store_Fuse = w_file_Store_Fuse := rfl
  have hr := law04_FileFuse_eq (R := AVal × Heap) c_law04_FileFuse (cs.length + 1) n calls σ0 fun v σ => some (v, σ)
  have hK := K_law04_FileFuse c_law04_FileFuse ok_law04_fit ok_law04_short ok_file_New ok_law04_do ok_file_Store_Crash ok_file_Store_Append ok_law04_Call_kind ok_file_Store_Fuse ok_file_Store_Used ok_file_Store_Up
  rw [p1, w_law04_fit, Option.bind_some, p2, p3, p8] at hr
  simp only [Bool.not_true, cond_false] at hr
  rcases w_law04_short_eq hA with h | ⟨h, hC, _⟩
  · rw [h, Option.bind_some] at hr
    exact ⟨σ0, call_ok ok hK hr⟩
  rw [h, Option.bind_some] at hr
  dsimp only at hr
  rw [show (!true) = false from rfl, cond_false] at hr
  obtain ⟨σ1, d, a1, a2, a3, _⟩ := Run.new 1048576 (by decide) σ0
  have hm : ∃ m : Nat, m ≤ 63 ∧ IntKind.i64.wrap (BitVec.ofInt IntKind.i64.bits n &&& BitVec.ofInt IntKind.i64.bits 63).toNat = (m : Int) := by
    have h : (BitVec.ofInt IntKind.i64.bits n &&& BitVec.ofInt IntKind.i64.bits 63).toNat ≤ 63 := by
      rw [BitVec.toNat_and]
      exact Nat.and_le_right
    exact ⟨_, h, wrap_i64_nat _ (by omega)⟩
  obtain ⟨m, hm1, hm2⟩ := hm
  obtain ⟨σ2, d2, b1, b2, b3, b4, _⟩ := a2.fuse (k := (m : Int)) (by omega)
  obtain ⟨σ3, r1⟩ := fuse_loop (L := cs.length + 1) hC cs.length 0 (cs.length + 1) σ2 d2 (m : Int) (by omega) (by omega) (b2.more (by omega)) b4 (by rw [b3]; simp [Sto.fuse]) (by rw [b3]; rfl) (by omega)
  rw [hm2, a1, Option.bind_some, b1, Option.bind_some] at hr
  exact ⟨σ3, call_ok ok hK (hr.trans r1)⟩
end Go.Abs.TC
