/-
CastSpoils on the machine.
-/
import Derived.Test.YtohlebkhlbcnaaaDoorLawTA
namespace Go.Abs.TB
open Go Go.Abs Go.Proofs

noncomputable def c_CastSpoils : C_law17_CastSpoils := { law17_fit := w_law17_fit, ref12_Tame := w_ref12_Tame, cast_Export := w_cast_Export, law17_write := w_law17_write, cast_Import := w_cast_Import, ref12_List := w_ref12_List }
theorem u8_all (l : List UInt8) : (l.map fun b => AVal.int .u8 b.toNat) = eU8.all l := by
  induction l with
  | nil => rfl
  | cons x l ih =>
    rw [List.map_cons, ih, El.all_cons]
    rfl
theorem u8_wrap (z : Nat) (h : z < 256) : IntKind.u8.wrap (z : Int) = (((UInt8.ofNat z).toNat : Nat) : Int) := by
  have : ∀ z : Fin 256, IntKind.u8.wrap ((z.val : Nat) : Int) = (((UInt8.ofNat z.val).toNat : Nat) : Int) := by decide +kernel
  exact this ⟨z, h⟩
theorem law_CastSpoils (l : Sl) (a t : Int) {σ : Heap} {es : List Ev} (hp : PowOK true true σ) (hn : l.n = es.length) (hI : es.length ≤ 1099511627776 → l.Is eEv σ es) :
    ∃ σ1, CallOK Tryd.prog T 13 [.slice l.b l.o l.n 5, .int .i64 a, .int .u8 t] σ (.bool true) σ1 := by
  have hK := K_law17_CastSpoils c_CastSpoils ok_law17_fit ok_ref12_Tame ok_cast_Export ok_law17_write ok_cast_Import ok_ref12_List
  have hr := law17_CastSpoils_eq (R := AVal × Heap) c_CastSpoils 1 l a t σ fun v σ => some (v, σ)
  have q1 : c_CastSpoils.law17_fit = w_law17_fit := rfl
  have q2 : c_CastSpoils.ref12_Tame = w_ref12_Tame := rfl
  have q3 : c_CastSpoils.cast_Export = w_cast_Export := rfl
  have q4 : c_CastSpoils.law17_write = w_law17_write := rfl
  have q5 : c_CastSpoils.cast_Import = w_cast_Import := rfl
  have q6 : c_CastSpoils.ref12_List = w_ref12_List := rfl
  rw [q1, q2, q3, q4, q5, q6, w_law17_fit_eq hp.gp, Option.bind_some, Bool.not_true, cond_false, hn] at hr
  by_cases h30 : es.length > 30
  · rw [decide_eq_true (show (es.length : Int) > 30 by omega), cond_true] at hr
    rw [hn]
    exact ⟨_, call_ok ok hK hr⟩
  rw [decide_eq_false (show ¬ (es.length : Int) > 30 by omega), cond_false, w_ref12_Tame_eq (hI (by omega)) (by omega), Option.bind_some] at hr
  have z80 : I64 80 := by constructor <;> decide
  have z24 : I64 24 := by constructor <;> decide
  have hE := tame_exp (σ := σ) (es := es) (by omega) hp.gp z80 z24
  have hF : ∀ e ∈ tameL 0 es, e.Fit := hE.2.2.2.2.2
  have hX := export_len z80 z24 hF
  rw [tameL_len] at hX
  rw [w_cast_Export_eq hE, Option.bind_some] at hr
  have hp2 : PowOK true true (fresh eEv σ es.isEmpty (tameL 0 es)).2 := hp.pre (fresh_pre ..)
  obtain ⟨xs0, hx0⟩ := lines_end (es := tameL 0 es) (head_end 80 24)
  change exportL 80 24 (tameL 0 es) = _ at hx0
  have hpos : 0 < (exportL 80 24 (tameL 0 es)).length := by rw [hx0, List.length_append]; exact Nat.succ_pos _
  generalize exportL 80 24 (tameL 0 es) = xs at *
  generalize (fresh eEv σ es.isEmpty (tameL 0 es)).2 = σ1 at *
  obtain ⟨n, hn1, hn2⟩ : ∃ n : Nat, n < xs.length ∧ Int.tmod (IntKind.i64.wrap (BitVec.ofInt IntKind.i64.bits a &&& BitVec.ofInt IntKind.i64.bits 16777215).toNat) (xs.length : Int) = (n : Int) := by
    obtain ⟨u, hu, eu⟩ := msk_nat a (m := 16777215) (by decide)
    change IntKind.i64.wrap (BitVec.ofInt IntKind.i64.bits a &&& BitVec.ofInt IntKind.i64.bits 16777215).toNat = _ at eu
    exact ⟨u % xs.length, Nat.mod_lt _ hpos, by rw [eu]; rfl⟩
  dsimp only at hr
  rw [ba_size, hn2, ba_data, u8_all, decide_eq_true (show xs.length ≤ 70368744177664 by omega), cond_true] at hr
  unfold alloc at hr
  dsimp only at hr
  rw [if_neg (show ¬ (xs.length : Int) = 0 by omega), dec0, Bool.true_and, lt_true hn1, cond_true, Int.toNat_natCast] at hr
  have hO : Sl.Own ⟨some σ1.length, 0, xs.length⟩ eU8 (σ1 ++ [.row (eU8.all xs) .rw]) xs := Sl.Own.new
  have hge : xs[n]? = some xs[n] := List.getElem?_eq_getElem hn1
  generalize xs[n] = x at hge
  obtain ⟨b, hb, hc⟩ := (hO.is (by omega)).cell hge
  injection hb with hb
  subst hb
  have c0 : Heap.cell? (σ1 ++ [.row (eU8.all xs) .rw]) σ1.length (0 + n * 1) = some (.int .u8 (x.toNat : Int)) := hc 0 (by decide)
  have ii : ∀ z : Int, int? (some (AVal.int .u8 z)) .u8 = some z := fun z => rfl
  rw [c0, ii, Option.bind_some] at hr
  obtain ⟨y, hy⟩ : ∃ y : UInt8, IntKind.u8.wrap (BitVec.ofInt IntKind.u8.bits (x.toNat : Int) ^^^ BitVec.ofInt IntKind.u8.bits t).toNat = (y.toNat : Int) :=
    ⟨_, u8_wrap _ (BitVec.isLt _)⟩
  rw [hy] at hr
  have hov : overwrite (eU8.all xs) (n * 1 + 0) [.int .u8 (y.toNat : Int)] = eU8.all (xs.set n y) := El.all_set eU8 xs hge y [] [.int .u8 (x.toNat : Int)] [] rfl (vs := [.int .u8 (y.toNat : Int)]) rfl rfl rfl
  obtain ⟨σ2, s1, s2, s3, s4⟩ := store_own hO (b := σ1.length) rfl hov (by rw [List.length_set]) (by show n * 1 + 0 + 1 ≤ xs.length * 1; omega)
  have s1' : Heap.store (σ1 ++ [.row (eU8.all xs) .rw]) σ1.length (0 + n * 1) [.int .u8 (y.toNat : Int)] = some σ2 := by rw [Nat.zero_add]; exact s1
  rw [s1', Option.bind_some] at hr
  have hys : (xs.set n y).length = xs.length := List.length_set ..
  generalize xs.set n y = ys at *
  have hpre2 : σ1 <+: σ2 := pre_of_get (by rw [s3, List.length_append]; omega) fun c hc => by
    rw [s4 c (by omega), List.getElem?_append_left hc]
  have hB : Sl.Is ⟨some σ1.length, 0, xs.length⟩ eU8 σ2 ys := s2.is (by omega)
  have hread : Heap.read σ2 (some σ1.length) 0 xs.length 1 = some (eU8.all ys) := hB.read
  have hp3 := hp2.pre hpre2
  rw [hread, Option.bind_some, bytes_all, Option.bind_some] at hr
  change _ = ((w_cast_Import (ba ys) σ2).bind _) at hr
  rcases import_any (l := ys) hp3.gu hp3.ge (by omega) hp3.gp with h | ⟨w, v, fs, q, σ3, h, hpre, hq, hfn, hR, hl, hw, hE3⟩
  · rw [h, Option.bind_some] at hr
    rw [hn]
    exact ⟨_, call_ok ok hK (hr.trans rfl)⟩
  · rw [h, Option.bind_some] at hr
    dsimp only at hr
    have hEz : ExpP (w : Int) (v : Int) q σ3.frz fs := ⟨hE3.1.frz, hE3.2.1, hE3.2.2.1, hq.frz, hE3.2.2.2.2.1, hE3.2.2.2.2.2⟩
    have hread3 : Heap.read σ3 (some σ1.length) 0 xs.length 1 = some (eU8.all ys) := (hB.pre hpre).read
    rw [bne_self_eq_false, cond_false, w_law17_write_eq hEz, Option.bind_some] at hr
    dsimp only at hr
    rw [frz_frz', hread3, Option.bind_some, bytes_all, Option.bind_some, hl] at hr
    change _ = (bif (ba ys).toList == (ba ys).toList then _ else _) at hr
    rw [beq_self_eq_true, cond_true, w_ref12_List_eq hq (by omega) hR, Option.bind_some] at hr
    rw [hn]
    exact ⟨_, call_ok ok hK hr⟩
end Go.Abs.TB
