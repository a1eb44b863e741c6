/-
CastWrites, CastLines on the machine.
-/
import Derived.Test.YtohlebkhlbcnaaaDoorMConW
import Derived.Test.YtohlebkhlbcnaaaDoorEqB2
namespace Go.Abs.TB
open Go Go.Abs Go.Proofs

theorem msk62 (x : Int) : I64 (IntKind.i64.wrap (BitVec.ofInt IntKind.i64.bits x &&& BitVec.ofInt IntKind.i64.bits 4611686018427387903).toNat) := by
  obtain ⟨u, h1, h2⟩ := msk_nat x (m := 4611686018427387903) (by decide)
  change IntKind.i64.wrap (BitVec.ofInt IntKind.i64.bits x &&& BitVec.ofInt IntKind.i64.bits 4611686018427387903).toNat = _ at h2
  rw [h2]
  constructor <;> omega
theorem tame_is {σ : Heap} {es : List Ev} (hn : es.length ≤ 60) : (fresh eEv σ es.isEmpty (tameL 0 es)).1.Is eEv (fresh eEv σ es.isEmpty (tameL 0 es)).2 (tameL 0 es) :=
  (fresh_own eEv σ es.isEmpty (tameL 0 es) (fun h => by rw [List.isEmpty_iff] at h; subst h; rfl)).is (by rw [tameL_len]; omega)
theorem tame_exp {σ : Heap} {es : List Ev} {w h : Int} (hn : es.length ≤ 60) (hp : GP σ) (hw : I64 w) (hh : I64 h) : ExpP w h (fresh eEv σ es.isEmpty (tameL 0 es)).1 (fresh eEv σ es.isEmpty (tameL 0 es)).2 (tameL 0 es) :=
  ⟨hp.pre (fresh_pre ..), hw, hh, tame_is hn, by rw [tameL_len]; omega, fun e he => (tameL_tame es 0 0 (by omega) (by omega) (by omega) e he).fit⟩
noncomputable def c_CastWrites : C_law17_CastWrites := { law17_fit := w_law17_fit, ref12_Tame := w_ref12_Tame, cast_Export := w_cast_Export, law17_write := w_law17_write }
theorem law_CastWrites {u e : Bool} (w h : Int) (l : Sl) {σ : Heap} {es : List Ev} (hp : PowOK u e σ) (hn : l.n = es.length) (hI : es.length ≤ 1099511627776 → l.Is eEv σ es) :
    ∃ σ1, CallOK Tryd.prog T 4 [.int .i64 w, .int .i64 h, .slice l.b l.o l.n 5] σ (.bool true) σ1 := by
  have hK := K_law17_CastWrites c_CastWrites ok_law17_fit ok_ref12_Tame ok_cast_Export ok_law17_write
  have hr := law17_CastWrites_eq (R := AVal × Heap) c_CastWrites 1 w h l σ fun v σ => some (v, σ)
  have q1 : c_CastWrites.law17_fit = w_law17_fit := rfl
  have q2 : c_CastWrites.ref12_Tame = w_ref12_Tame := rfl
  have q3 : c_CastWrites.cast_Export = w_cast_Export := rfl
  have q4 : c_CastWrites.law17_write = w_law17_write := rfl
  rw [q1, q2, q3, q4, w_law17_fit_eq hp.gp, Option.bind_some, Bool.not_true, cond_false, hn] at hr
  by_cases h60 : es.length > 60
  · rw [decide_eq_true (show (es.length : Int) > 60 by omega), cond_true] at hr
    rw [hn]
    exact ⟨_, call_ok ok hK hr⟩
  · rw [decide_eq_false (show ¬ (es.length : Int) > 60 by omega), cond_false, w_ref12_Tame_eq (hI (by omega)) (by omega), Option.bind_some] at hr
    have hE := tame_exp (σ := σ) (es := es) (by omega) hp.gp (msk62 w) (msk62 h)
    rw [w_cast_Export_eq hE, Option.bind_some, w_law17_write_eq hE, Option.bind_some, beq_self_eq_true] at hr
    rw [hn]
    exact ⟨_, call_ok ok hK hr⟩
/-! ### Lines -/
theorem cnt0 {l : List UInt8} (h : ∀ b ∈ l, 11 ≤ b.toNat) : l.count 10 = 0 := by
  rw [List.count_eq_zero]
  intro hb
  exact absurd (h 10 hb) (by decide)
theorem dec_ge (u : Nat) : ∀ b ∈ Lib.decDigits u, 11 ≤ b.toNat := fun b hb => by
  have := isD_iff.1 ((dec_digits u).1 b hb)
  omega
theorem itoa_ge (n : Int) : ∀ b ∈ Lib.itoa n, 11 ≤ b.toNat := fun b hb => by
  unfold Lib.itoa at hb
  split at hb
  · rcases List.mem_cons.1 hb with rfl | hb
    · decide
    · exact dec_ge _ b hb
  · exact dec_ge _ b hb
theorem time_ge (n : Nat) : ∀ b ∈ timeL n, 11 ≤ b.toNat := fun b hb => by
  unfold timeL pad6 at hb
  rw [List.mem_append, List.mem_cons, List.mem_append] at hb
  rcases hb with hb | rfl | hb | hb
  · exact dec_ge _ b hb
  · decide
  · rw [List.eq_of_mem_replicate hb]; decide
  · exact dec_ge _ b hb
theorem head_cnt (w h : Int) : (headL w h).count 10 = 1 := by
  unfold headL
  simp only [List.count_append, cnt0 (itoa_ge w), cnt0 (itoa_ge h)]
  decide
theorem line_cnt {e : Ev} (he : e.Fit) : (lineL e).count 10 = 1 := by
  have hs : (sgn e.k).count 10 = 0 := by
    have : e.k = 0 ∨ e.k = 1 ∨ e.k = 2 ∨ e.k = 3 := by have := he.k0; have := he.k1; omega
    rcases this with h | h | h | h <;> rw [h] <;> decide
  have hq : (quoteB e.text).count 10 = 0 := cnt0 fun b hb => by
    rw [quoteB_L] at hb
    have := quote_ok _ b hb
    omega
  unfold lineL
  rw [List.count_cons]
  simp only [List.count_append, cnt0 (time_ge _), hs, hq]
  decide
theorem lines_cnt : ∀ {es : List Ev}, (∀ e ∈ es, e.Fit) → (es.flatMap lineL).count 10 = es.length
  | [], _ => rfl
  | e :: es, h => by
    rw [List.flatMap_cons, List.count_append, line_cnt (h e List.mem_cons_self), lines_cnt fun e he => h e (List.mem_cons_of_mem _ he), List.length_cons]
    omega
theorem head_end (w h : Int) : ∃ xs, headL w h = xs ++ [10] := ⟨[123, 34, 118, 101, 114, 115, 105, 111, 110, 34, 58, 32, 50, 44, 32, 34, 119, 105, 100, 116, 104, 34, 58, 32] ++ (Lib.itoa w ++ ([44, 32, 34, 104, 101, 105, 103, 104, 116, 34, 58, 32] ++ (Lib.itoa h ++ [125]))), by
  unfold headL
  simp only [List.append_assoc, List.cons_append, List.nil_append]⟩
theorem line_end (e : Ev) : ∃ xs, lineL e = xs ++ [10] := ⟨91 :: (timeL e.t.toNat ++ ([44, 32, 34] ++ (sgn e.k ++ ([34, 44, 32] ++ (quoteB e.text ++ [93]))))), by
  unfold lineL
  simp only [List.append_assoc, List.cons_append, List.nil_append]⟩
theorem lines_end : ∀ {es : List Ev} {ys : List UInt8}, (∃ xs, ys = xs ++ [10]) → ∃ xs, ys ++ es.flatMap lineL = xs ++ [10]
  | [], ys, h => by simpa using h
  | e :: es, ys, _ => by
    rw [List.flatMap_cons, ← List.append_assoc]
    refine lines_end ?_
    obtain ⟨xs, hx⟩ := line_end e
    exact ⟨ys ++ xs, by rw [hx, List.append_assoc]⟩
theorem export_len {w h : Int} (hw : I64 w) (hh : I64 h) : ∀ {es : List Ev}, (∀ e ∈ es, e.Fit) → (exportL w h es).length ≤ 100 + 7000 * es.length := fun {es} hf => by
  have : ∀ {es : List Ev}, (∀ e ∈ es, e.Fit) → (es.flatMap lineL).length ≤ 7000 * es.length := fun {es} => by
    induction es with
    | nil => intro _; exact Nat.le_refl _
    | cons e es ih =>
      intro h
      have h1 := line_len (h e List.mem_cons_self)
      have h2 := ih fun e he => h e (List.mem_cons_of_mem _ he)
      rw [List.flatMap_cons, List.length_append, List.length_cons]
      omega
  have h1 := this hf
  have h2 := head_len hw hh
  unfold exportL
  rw [List.length_append]
  omega
noncomputable def c_CastLines : C_law17_CastLines := { law17_fit := w_law17_fit, ref12_Tame := w_ref12_Tame, cast_Export := w_cast_Export }
theorem lines_loop {R : Type} {L : Nat} {l : Sl} {s : List UInt8} {σ : Heap} {K : AVal → Heap → Option R} (hl : l.n ≤ 1000) (hs : s.length ≤ 10000000) (h1 : ∃ xs, s = xs ++ [10]) :
    ∀ (m i n : Nat), s.length - i < m → i ≤ s.length → n ≤ i → n + (s.drop i).count 10 = l.n + 1 → law17_CastLines_L9 c_CastLines L m l (ba s) (n : Int) (s.length : Int) (i : Int) σ K = K (.bool true) σ
  | 0, _, _, h, _, _, _ => by omega
  | m + 1, i, n, hm, hi, hni, hc => by
    rw [law17_CastLines_L9_eq, ba_size, ba_data]
    by_cases h : i < s.length
    · have hdrop : s.drop i = s[i] :: s.drop (i + 1) := List.drop_eq_getElem_cons h
      have hget : s.getD i 0 = s[i] := by rw [List.getD_eq_getElem?_getD, List.getElem?_eq_getElem h]; rfl
      have hi1 : IntKind.i64.wrap ((i : Int) + 1) = ((i + 1 : Nat) : Int) := wrap_i64_succ i (by omega)
      have hn1 : IntKind.i64.wrap ((n : Int) + 1) = ((n + 1 : Nat) : Int) := wrap_i64_succ n (by omega)
      rw [hdrop, List.count_cons] at hc
      rw [lt_true h, cond_true, dec0, Bool.true_and, cond_true, Int.toNat_natCast, hget, hi1, hn1, show (10 : Int) = ((10 : Nat) : Int) from rfl, byte_eq _ 10 (by decide)]
      by_cases hx : s[i] = 10
      · rw [decide_eq_true (show s[i] = UInt8.ofNat 10 from hx), cond_true]
        rw [hx, beq_self_eq_true, if_pos rfl] at hc
        exact lines_loop hl hs h1 m (i + 1) (n + 1) (by omega) (by omega) (by omega) (by omega)
      · rw [decide_eq_false (show ¬ s[i] = UInt8.ofNat 10 from hx), cond_false]
        rw [if_neg (by rw [beq_iff_eq]; exact hx)] at hc
        exact lines_loop hl hs h1 m (i + 1) n (by omega) (by omega) (by omega) (by omega)
    · obtain ⟨xs, hx⟩ := h1
      have hlen : s.length = xs.length + 1 := by rw [hx, List.length_append]; rfl
      rw [List.drop_of_length_le (by omega), List.count_nil, Nat.add_zero] at hc
      have e1 : IntKind.i64.wrap ((l.n : Int) + 1) = ((l.n + 1 : Nat) : Int) := wrap_i64_succ l.n (by omega)
      have e2 : IntKind.i64.wrap ((s.length : Int) - 1) = (xs.length : Int) := by rw [wrap_i64_of (by omega) (by omega)]; omega
      have e3 : s.getD xs.length 0 = 10 := by rw [hx, List.getD_eq_getElem?_getD, List.getElem?_append_right (Nat.le_refl _), Nat.sub_self]; rfl
      rw [lt_false h, cond_false, e1, hc, beq_self_eq_true, cond_true, e2, dec0, Bool.true_and, lt_true (by omega), cond_true, Int.toNat_natCast, e3]
      rfl
theorem law_CastLines {u e : Bool} (l : Sl) {σ : Heap} {es : List Ev} (hp : PowOK u e σ) (hn : l.n = es.length) (hI : es.length ≤ 1099511627776 → l.Is eEv σ es) :
    ∃ σ1, CallOK Tryd.prog T 5 [.slice l.b l.o l.n 5] σ (.bool true) σ1 := by
  have hK := K_law17_CastLines c_CastLines ok_law17_fit ok_ref12_Tame ok_cast_Export
  have q1 : c_CastLines.law17_fit = w_law17_fit := rfl
  have q2 : c_CastLines.ref12_Tame = w_ref12_Tame := rfl
  have q3 : c_CastLines.cast_Export = w_cast_Export := rfl
  have hr := law17_CastLines_eq (R := AVal × Heap) c_CastLines 1000000 l σ fun v σ => some (v, σ)
  rw [q1, q2, q3, w_law17_fit_eq hp.gp, Option.bind_some, Bool.not_true, cond_false, hn] at hr
  by_cases h60 : es.length > 60
  · rw [decide_eq_true (show (es.length : Int) > 60 by omega), cond_true] at hr
    rw [hn]
    exact ⟨_, call_ok ok hK hr⟩
  · rw [decide_eq_false (show ¬ (es.length : Int) > 60 by omega), cond_false, w_ref12_Tame_eq (hI (by omega)) (by omega), Option.bind_some] at hr
    have z0 : I64 0 := by constructor <;> decide
    have hE := tame_exp (σ := σ) (es := es) (by omega) hp.gp z0 z0
    have hT : (tameL 0 es).length = es.length := tameL_len es 0
    have hF : ∀ e ∈ tameL 0 es, e.Fit := hE.2.2.2.2.2
    have hX := export_len z0 z0 hF
    rw [w_cast_Export_eq hE, Option.bind_some] at hr
    dsimp only at hr
    rw [ba_size] at hr
    have hgo := lines_loop (L := 1000000) (l := (fresh eEv σ es.isEmpty (tameL 0 es)).1) (s := exportL 0 0 (tameL 0 es)) (σ := (fresh eEv σ es.isEmpty (tameL 0 es)).2) (K := fun v σ => some (v, σ)) (by rw [hE.2.2.2.1.n]; omega) (by omega) (lines_end (head_end 0 0)) 1000000 0 0 (by omega) (by omega) (by omega) (by
      rw [List.drop_zero, hE.2.2.2.1.n, hT]
      unfold exportL
      rw [List.count_append, head_cnt, lines_cnt hF, hT]
      omega)
    rw [hn]
    exact ⟨_, call_ok ok hK (hr.trans hgo)⟩
end Go.Abs.TB
