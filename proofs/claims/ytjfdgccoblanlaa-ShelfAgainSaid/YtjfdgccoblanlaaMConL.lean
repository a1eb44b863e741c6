/-
shelf.Sweep, shelf.write.
shelf.write: what it does.
shelf.write: the walk.
shelf.write: the contract.
shelf.Save, shelf.Names.
law19: Get, small, Do.
law19: small, Do.
law19: fit.
law19: runs of calls.
A store, plain: what is done to one file is not seen at another; a save; a crash of what is sure.
A run of calls with saves and crashes of any kind.
-/
import Derived.Test.YtjfdgccoblanlaaMConJ
import Derived.Test.YtjfdgccoblanlaaMAe
import Derived.Test.YtjfdgccoblanlaaEqC3
import Derived.Test.YtjfdgccoblanlaaEqC2
namespace Go.Abs.TC
open Go Go.Abs Go.Proofs

/-! ### Sweep -/
def tilde : ByteArray := ⟨#[126]⟩
def Sto.sweep (t : Sto) : Int × Sto := (if (t.delete tilde).1 = 4 then 0 else (t.delete tilde).1, (t.delete tilde).2)
noncomputable def c_shelf_Sweep : C_shelf_Sweep := { file_Store_Delete := w_file_Store_Delete }
noncomputable def w_shelf_Sweep (s : Pt) (σ : Heap) : Option (Int × Heap) := stRel 36 [.ptr s] (tInt .i64).av s (fun t => some t.sweep) σ
theorem ok_shelf_Sweep : Ok_shelf_Sweep w_shelf_Sweep := fun _ _ _ _ h => stRel_ok h
theorem w_shelf_Sweep_ex {σ : Heap} {d : SD} (h : St σ .rw d) (hl : LeftOk d) :
    ∃ σ' d', w_shelf_Sweep (some (d.s, 0)) σ = some (d.sto.sweep.1, σ') ∧ St σ' .rw d' ∧ Fr σ d σ' d' ∧ d'.sto = d.sto.sweep.2 := by
  refine stRel_ex (op := fun t => some t.sweep) h rfl ?_
  have p1 : c_shelf_Sweep.file_Store_Delete = w_file_Store_Delete := rfl
  have hr := shelf_Sweep_eq (R := AVal × Heap) c_shelf_Sweep 0 (some (d.s, 0)) σ fun v σ => some (v, σ)
  obtain ⟨σ', d', r1, r2⟩ := w_file_Store_Delete_ex h hl tilde
  unfold tilde at r1
  rw [p1, r1, Option.bind_some] at hr
  dsimp only at hr
  refine ⟨σ', d', call_ok ok (K_shelf_Sweep c_shelf_Sweep ok_file_Store_Delete) (hr.trans ?_), r2⟩
  unfold Sto.sweep tilde
  by_cases h4 : (d.sto.delete ⟨#[126]⟩).1 = 4
  · rw [show ((d.sto.delete ⟨#[126]⟩).1 != 4) = false by simpa using h4, cond_false, if_pos h4]; rfl
  · rw [show ((d.sto.delete ⟨#[126]⟩).1 != 4) = true by simpa using h4, cond_true, if_neg h4]; rfl

/-! ### write: its code -/
structure C_shelf_write where
  file_Store_Append : Pt → ByteArray → Sl → Heap → Option (Int × Heap)
  file_Store_Sync : Pt → ByteArray → Heap → Option (Int × Heap)
  shelf_Sweep : Pt → Heap → Option (Int × Heap)
  file_Store_Rename : Pt → ByteArray → ByteArray → Heap → Option (Int × Heap)
noncomputable def O_shelf_write (w : C_shelf_write) : Known := ((((known0).and 18 (g3 tPtr tStr (tSl 1) (tInt .i64) w.file_Store_Append)).and 19 (g2 tPtr tStr (tInt .i64) w.file_Store_Sync)).and 36 (g1 tPtr (tInt .i64) w.shelf_Sweep)).and 37 (g3 tPtr tStr tStr (tInt .i64) w.file_Store_Rename)
theorem K_shelf_write (w : C_shelf_write) (h_file_Store_Append : Ok_file_Store_Append w.file_Store_Append) (h_file_Store_Sync : Ok_file_Store_Sync w.file_Store_Sync) (h_shelf_Sweep : Ok_shelf_Sweep w.shelf_Sweep) (h_file_Store_Rename : Ok_file_Store_Rename w.file_Store_Rename) : KnownOK Try.prog T (O_shelf_write w) :=
  known_ok ok (known_ok ok (known_ok ok (known_ok ok (known0_ok) fn_file_Store_Append (by kernel_rfl) (g3_ok h_file_Store_Append)) fn_file_Store_Sync (by kernel_rfl) (g2_ok h_file_Store_Sync)) fn_shelf_Sweep (by kernel_rfl) (g1_ok h_shelf_Sweep)) fn_file_Store_Rename (by kernel_rfl) (g3_ok h_file_Store_Rename)

noncomputable def c53 : Code := Code.sub (bodyOf Try.f53) [0]
noncomputable def d53 : Code := Code.sub (bodyOf Try.f53) [1, 1]
noncomputable def ops53 : Array Oper := match Code.sub (bodyOf Try.f53) [1, 0] with | .region _ ops _ => ops | _ => #[]
noncomputable def o53a : Oper := ops53.getD 0 default
noncomputable def o53b : Oper := ops53.getD 1 default
theorem body53 : Try.f53.body = some (.seq c53 (.seq (.region 1 #[o53a, o53b] false) d53)) := by kernel_rfl
theorem o53 : o53a.op = .makeFunc (.func 57) #[] #[.tmp 6, .tmp 3] ∧ o53a.dst = some 7 ∧ o53a.guard = none ∧ o53b.op = .defer { callee := .value (.tmp 7), args := #[], argTypes := #[] } ∧ o53b.dst = none ∧ o53b.guard = none := ⟨by kernel_rfl, by kernel_rfl, by kernel_rfl, by kernel_rfl, by kernel_rfl, by kernel_rfl⟩
theorem good53s : goodCode T 53 c53 = true ∧ goodCode T 53 d53 = true ∧ goodCode T 57 (bodyOf Try.f57) = true := ⟨by kernel_rfl, by kernel_rfl, by kernel_rfl⟩
def env53 (s n b b4 b6 : AVal) : Env := [s, n, b, b4, .undef, .undef, b6] ++ List.replicate 20 .undef
theorem run53a {σ : Heap} (s1 : Pt) (n : ByteArray) (b3 : Sl) : codeC (R := Ex × Env × Locs × Heap) T 0 53 (callC T known0 0 0) c53 ([.ptr s1, .str n, .slice b3.b b3.o b3.n 1] ++ List.replicate 24 .undef) (List.replicate 27 .none) σ (fun x e l σ => some (x, e, l, σ)) =
    some (.normal, env53 (.ptr s1) (.str n) (.slice b3.b b3.o b3.n 1) (.ptr (some (σ.length, 0))) (.ptr (some ((σ ++ [Blk.row [.ptr s1] .rw]).length, 0))), List.replicate 27 .none, σ ++ [Blk.row [.ptr s1] .rw] ++ [Blk.row [.int .i64 0] .rw]) := by kernel_rfl
theorem run53b (w : C_shelf_write) (s1 : Pt) (name2 : ByteArray) (b3 : Sl) (b4 b6 : Nat) (σ : Heap) : codeC (R := Ex × AVal × Locs × Heap) T 0 53 (callC T (O_shelf_write w) 0 1) d53 (env53 (.ptr s1) (.str name2) (.slice b3.b b3.o b3.n 1) (.ptr (some (b4, 0))) (.ptr (some (b6, 0)))) (List.replicate 27 .none) σ (fun x e l σ => some (x, e.getD 6 .undef, l, σ)) =
    (ptr? (Heap.cell? σ b4 0)).bind fun x8 =>
    (w.shelf_Sweep x8 σ).bind fun q9 =>
    (Heap.store q9.2 b6 0 [.int .i64 q9.1]).bind fun σ10 =>
    (int? (Heap.cell? σ10 b6 0) .i64).bind fun x11 =>
    bif (x11 != 0) then (
      (int? (Heap.cell? σ10 b6 0) .i64).bind fun x12 =>
      (Heap.store σ10 b6 0 [.int .i64 x12]).bind fun σ13 =>
      some (.ret, .ptr (some (b6, 0)), List.replicate 27 .none, σ13))
    else
    (ptr? (Heap.cell? σ10 b4 0)).bind fun x15 =>
    (w.file_Store_Append x15 (⟨#[126]⟩ : ByteArray) b3 σ10).bind fun q16 =>
    (Heap.store q16.2 b6 0 [.int .i64 q16.1]).bind fun σ17 =>
    (int? (Heap.cell? σ17 b6 0) .i64).bind fun x18 =>
    bif (x18 != 0) then (
      (int? (Heap.cell? σ17 b6 0) .i64).bind fun x19 =>
      (Heap.store σ17 b6 0 [.int .i64 x19]).bind fun σ20 =>
      some (.ret, .ptr (some (b6, 0)), List.replicate 27 .none, σ20))
    else
    (ptr? (Heap.cell? σ17 b4 0)).bind fun x22 =>
    (w.file_Store_Sync x22 (⟨#[126]⟩ : ByteArray) σ17).bind fun q23 =>
    (Heap.store q23.2 b6 0 [.int .i64 q23.1]).bind fun σ24 =>
    (int? (Heap.cell? σ24 b6 0) .i64).bind fun x25 =>
    bif (x25 != 0) then (
      (int? (Heap.cell? σ24 b6 0) .i64).bind fun x26 =>
      (Heap.store σ24 b6 0 [.int .i64 x26]).bind fun σ27 =>
      some (.ret, .ptr (some (b6, 0)), List.replicate 27 .none, σ27))
    else
    (ptr? (Heap.cell? σ24 b4 0)).bind fun x29 =>
    (w.file_Store_Rename x29 (⟨#[126]⟩ : ByteArray) name2 σ24).bind fun q30 =>
    (Heap.store q30.2 b6 0 [.int .i64 q30.1]).bind fun σ31 =>
    some (.ret, .ptr (some (b6, 0)), List.replicate 27 .none, σ31) := by kernel_rfl
structure C_shelf_write_1 where
  file_Store_Delete : Pt → ByteArray → Heap → Option (Int × Heap)
noncomputable def O_shelf_write_1 (w : C_shelf_write_1) : Known := (known0).and 38 (g2 tPtr tStr (tInt .i64) w.file_Store_Delete)
theorem run57 (w : C_shelf_write_1) (b4 b6 : Nat) (σ : Heap) : codeC (R := Ex × Locs × Heap) T 0 57 (callC T (O_shelf_write_1 w) 0 1) (bodyOf Try.f57) ([.ptr (some (b6, 0)), .ptr (some (b4, 0))] ++ List.replicate 4 .undef) (List.replicate 6 .none) σ (fun x _ l σ => some (x, l, σ)) =
    (int? (Heap.cell? σ b6 0) .i64).bind fun x =>
    bif (x != 0) then (
      (ptr? (Heap.cell? σ b4 0)).bind fun s =>
      (w.file_Store_Delete s (⟨#[126]⟩ : ByteArray) σ).bind fun q => some (.normal, List.replicate 6 .none, q.2))
    else some (.normal, List.replicate 6 .none, σ) := by kernel_rfl
end Go.Abs.TC
namespace Go.Abs.TC
open Go Go.Abs Go.Proofs

def Sto.fin (r : Int × Sto) : Int × Sto := if r.1 ≠ 0 then (r.1, (r.2.delete tilde).2) else r
def Sto.write0 (t : Sto) (n : ByteArray) (xs : List UInt8) : Int × Sto :=
  if t.sweep.1 ≠ 0 then t.sweep else
  if (t.sweep.2.append tilde xs).1 ≠ 0 then t.sweep.2.append tilde xs else
  if ((t.sweep.2.append tilde xs).2.sync tilde).1 ≠ 0 then (t.sweep.2.append tilde xs).2.sync tilde else
  ((t.sweep.2.append tilde xs).2.sync tilde).2.rename tilde n
def Sto.write (t : Sto) (n : ByteArray) (xs : List UInt8) : Int × Sto := Sto.fin (t.write0 n xs)
theorem kind3 : kindI 3 = 3 := by decide
theorem kind4 : kindI 4 = 4 := by decide
theorem delete_done (t : Sto) (n : ByteArray) : Done t (t.delete n) 0 := by
  have h := doC_done t ⟨4, 0, n, ⟨#[]⟩, []⟩ (show kindI 4 < 6 by rw [kind4]; decide)
  have e : t.doC ⟨4, 0, n, ⟨#[]⟩, []⟩ = t.delete n := by
    unfold Sto.doC
    rw [if_neg (show ¬ kindI 4 = 2 by rw [kind4]; decide), if_neg (show ¬ kindI 4 = 3 by rw [kind4]; decide), if_pos (show kindI 4 = 4 from kind4)]
  rw [e] at h
  exact h
theorem rename_done (t : Sto) (n to : ByteArray) : Done t (t.rename n to) 0 := by
  have h := doC_done t ⟨3, 0, n, to, []⟩ (show kindI 3 < 6 by rw [kind3]; decide)
  have e : t.doC ⟨3, 0, n, to, []⟩ = t.rename n to := by
    unfold Sto.doC
    rw [if_neg (show ¬ kindI 3 = 2 by rw [kind3]; decide), if_pos (show kindI 3 = 3 from kind3)]
  rw [e] at h
  exact h
section
variable {σ0 σ σ' : Heap} {d d' : SD} {n : Nat}
theorem Run.of (h : Run σ0 σ d n) {r : Int × Sto} {k m : Nat} (D : Done d.sto r k) (r2 : St σ' .rw d') (r3 : Fr σ d σ' d') (r4 : d'.sto = r.2) (hm : n + k + 1 ≤ m) : Run σ0 σ' d' m :=
  ⟨r2, by rw [r4]; exact D.left h.left, by rw [r4]; have := D.size; have := h.size; omega, h.ro.trans (ro_fr r3 h.st)⟩
theorem Run.delete (h : Run σ0 σ d n) (nm : ByteArray) : ∃ σ' d', w_file_Store_Delete (some (d.s, 0)) nm σ = some ((d.sto.delete nm).1, σ') ∧ Run σ0 σ' d' (n + 1) ∧ d'.sto = (d.sto.delete nm).2 ∧ d'.s = d.s ∧ Fr σ d σ' d' := by
  obtain ⟨σ', d', r1, r2, r3, r4⟩ := w_file_Store_Delete_ex h.st (LeftOk.of h.left) nm
  exact ⟨σ', d', r1, h.of (delete_done d.sto nm) r2 r3 r4 (by omega), r4, r3.s, r3⟩
theorem Run.sweep (h : Run σ0 σ d n) : ∃ σ' d', w_shelf_Sweep (some (d.s, 0)) σ = some (d.sto.sweep.1, σ') ∧ Run σ0 σ' d' (n + 1) ∧ d'.sto = d.sto.sweep.2 ∧ d'.s = d.s ∧ Fr σ d σ' d' := by
  obtain ⟨σ', d', r1, r2, r3, r4⟩ := w_shelf_Sweep_ex h.st (LeftOk.of h.left)
  exact ⟨σ', d', r1, h.of (delete_done d.sto tilde) r2 r3 r4 (by omega), r4, r3.s, r3⟩
theorem Run.rename (h : Run σ0 σ d n) (nm to : ByteArray) : ∃ σ' d', w_file_Store_Rename (some (d.s, 0)) nm to σ = some ((d.sto.rename nm to).1, σ') ∧ Run σ0 σ' d' (n + 1) ∧ d'.sto = (d.sto.rename nm to).2 ∧ d'.s = d.s ∧ Fr σ d σ' d' := by
  obtain ⟨σ', d', r1, r2, r3, r4⟩ := w_file_Store_Rename_ex h.st (LeftOk.of h.left) nm to
  exact ⟨σ', d', r1, h.of (rename_done d.sto nm to) r2 r3 r4 (by omega), r4, r3.s, r3⟩
/-- The two boxes that the closure knows. -/
structure Box (σ : Heap) (d : SD) (s b4 b6 : Nat) (k : Int) : Prop where
  p : σ[b4]? = some (.row [.ptr (some (s, 0))] .rw)
  e : σ[b6]? = some (.row [.int .i64 k] .rw)
  o4 : b4 ∉ d.foot
  o6 : b6 ∉ d.foot
  ne : b4 ≠ b6
theorem Box.fr {s b4 b6 : Nat} {k : Int} (h : Box σ d s b4 b6 k) (f : Fr σ d σ' d') : Box σ' d' s b4 b6 k := by
  have l4 := (List.getElem?_eq_some_iff.1 h.p).1
  have l6 := (List.getElem?_eq_some_iff.1 h.e).1
  refine ⟨by rw [f.at_ b4 l4 h.o4]; exact h.p, by rw [f.at_ b6 l6 h.o6]; exact h.e, fun hm => ?_, fun hm => ?_, h.ne⟩
  · rcases f.foot b4 hm with h1 | h1
    · exact h.o4 h1
    · omega
  · rcases f.foot b6 hm with h1 | h1
    · exact h.o6 h1
    · omega
theorem Box.cells {s b4 b6 : Nat} {k : Int} (h : Box σ d s b4 b6 k) : ptr? (σ.cell? b4 0) = some (some (s, 0)) ∧ int? (σ.cell? b6 0) .i64 = some k := by
  have h1 : σ.cell? b4 0 = some (.ptr (some (s, 0))) := by unfold Heap.cell?; rw [row?_of h.p (by simp)]; rfl
  have h2 : σ.cell? b6 0 = some (.int .i64 k) := by unfold Heap.cell?; rw [row?_of h.e (by simp)]; rfl
  rw [h1, h2]
  exact ⟨rfl, rfl⟩
theorem Box.put {s b4 b6 : Nat} {k : Int} (h : Box σ d s b4 b6 k) (hR : Run σ0 σ d n) (k' : Int) (hb : ∀ cs, σ0[b6]? ≠ some (Blk.row cs .ro)) :
    ∃ σ', σ.store b6 0 [.int .i64 k'] = some σ' ∧ Box σ' d s b4 b6 k' ∧ Run σ0 σ' d n ∧ σ'.length = σ.length ∧ ∀ b, b ≠ b6 → σ'[b]? = σ[b]? := by
  have l6 := (List.getElem?_eq_some_iff.1 h.e).1
  have hat : ∀ b, b ≠ b6 → (σ.set b6 (Blk.row [.int .i64 k'] .rw))[b]? = σ[b]? := fun b hb => List.getElem?_set_ne (Ne.symm hb)
  refine ⟨σ.set b6 (.row [.int .i64 k'] .rw), ?_, ⟨by rw [hat b4 h.ne]; exact h.p, by rw [List.getElem?_set_self l6], h.o4, h.o6, h.ne⟩, ⟨hR.st.same fun b hb' => hat b (fun e => h.o6 (e ▸ hb')), hR.left, hR.size, fun c cs hc => ?_⟩, by simp, hat⟩
  · unfold Heap.store
    rw [h.e]
    rfl
  · by_cases e : c = b6
    · subst e; exact absurd hc (hb cs)
    · rw [hat c e]; exact hR.ro c cs hc
end
end Go.Abs.TC
namespace Go.Abs.TC
open Go Go.Abs Go.Proofs

noncomputable def c_shelf_write : C_shelf_write := { file_Store_Append := w_file_Store_Append, file_Store_Sync := w_file_Store_Sync, shelf_Sweep := w_shelf_Sweep, file_Store_Rename := w_file_Store_Rename }
noncomputable def c_shelf_write_1 : C_shelf_write_1 := { file_Store_Delete := w_file_Store_Delete }
/-- No other block turns, but b6. -/
structure Wr (σ : Heap) (d : SD) (b6 : Nat) (σ' : Heap) (d' : SD) : Prop where
  len : σ.length ≤ σ'.length
  at_ : ∀ b, b < σ.length → b ∉ d.foot → b ≠ b6 → σ'[b]? = σ[b]?
  foot : ∀ b ∈ d'.foot, b ∈ d.foot ∨ σ.length ≤ b
  s : d'.s = d.s
section
variable {σ0 σ σ' σ'' : Heap} {d d' d'' : SD} {n b4 b6 : Nat}
theorem Wr.trans (h : Wr σ d b6 σ' d') (k : Wr σ' d' b6 σ'' d'') : Wr σ d b6 σ'' d'' where
  len := Nat.le_trans h.len k.len
  at_ := fun b hb hn h6 => (k.at_ b (Nat.lt_of_lt_of_le hb h.len) (fun hm => (h.foot b hm).elim hn fun hl => by omega) h6).trans (h.at_ b hb hn h6)
  foot := fun b hb => (k.foot b hb).elim (h.foot b) fun hl => .inr (Nat.le_trans h.len hl)
  s := k.s.trans h.s
/-- A call, and its answer put away. -/
theorem wr_step {k : Int} (hR : Run σ0 σ' d' n) (hB : Box σ d d.s b4 b6 k) (hF : Fr σ d σ' d') (k' : Int) (hb : ∀ cs, σ0[b6]? ≠ some (Blk.row cs .ro)) :
    ∃ σ2, σ'.store b6 0 [.int .i64 k'] = some σ2 ∧ Box σ2 d' d'.s b4 b6 k' ∧ Run σ0 σ2 d' n ∧ Wr σ d b6 σ2 d' := by
  have h1 := hB.fr hF
  obtain ⟨σ2, s1, s2, s3, s4, s5⟩ := h1.put hR k' hb
  rw [hF.s]
  exact ⟨σ2, s1, s2, s3, by rw [s4]; exact hF.len, fun b hb' hn h6 => (s5 b h6).trans (hF.at_ b hb' hn), hF.foot, hF.s⟩
theorem is_wr {s : Sl} {xs : List UInt8} (h : s.Is eU8 σ xs) (k : Wr σ d b6 σ' d') (ho : ∀ c, s.b = some c → c ∉ d.foot ∧ c ≠ b6) : s.Is eU8 σ' xs ∧ ∀ c, s.b = some c → c ∉ d'.foot ∧ c ≠ b6 :=
  ⟨h.of_row fun c cs hc hrow => by rw [row?_congr (k.at_ c (row?_lt hrow) (ho c hc).1 (ho c hc).2)]; exact hrow, fun c hc => ⟨fun hm => by
    rcases k.foot c hm with h1 | h1
    · exact (ho c hc).1 h1
    · have := h.lt hc; omega, (ho c hc).2⟩⟩
theorem write0_run (hR : Run σ0 σ d n) (hn : n ≤ 800000) (hB : Box σ d d.s b4 b6 0) (hb : ∀ cs, σ0[b6]? ≠ some (Blk.row cs .ro)) (nm : ByteArray) {b : Sl} {xs : List UInt8} (hX : b.Is eU8 σ xs) (hXo : ∀ c, b.b = some c → c ∉ d.foot ∧ c ≠ b6) (hl : xs.length ≤ 900) :
    ∃ l σ' d', codeC (R := Ex × AVal × Locs × Heap) T 0 53 (callC T (O_shelf_write c_shelf_write) 0 1) d53 (env53 (.ptr (some (d.s, 0))) (.str nm) (.slice b.b b.o b.n 1) (.ptr (some (b4, 0))) (.ptr (some (b6, 0)))) (List.replicate 27 .none) σ (fun x e l σ => some (x, e.getD 6 .undef, l, σ)) = some (.ret, .ptr (some (b6, 0)), l, σ') ∧
      Run σ0 σ' d' (n + xs.length + 5) ∧ Box σ' d' d.s b4 b6 (d.sto.write0 nm xs).1 ∧ d'.sto = (d.sto.write0 nm xs).2 ∧ Wr σ d b6 σ' d' := by
  have p1 : c_shelf_write.shelf_Sweep = w_shelf_Sweep := rfl
  have p2 : c_shelf_write.file_Store_Append = w_file_Store_Append := rfl
  have p3 : c_shelf_write.file_Store_Sync = w_file_Store_Sync := rfl
  have p4 : c_shelf_write.file_Store_Rename = w_file_Store_Rename := rfl
  obtain ⟨c1, _⟩ := hB.cells
  rw [run53b, p1, p2, p3, p4, c1, Option.bind_some]
  obtain ⟨σa, da, a1, a2, a3, a4, a5⟩ := hR.sweep
  obtain ⟨σb, b1, b2, b3, b5⟩ := wr_step a2 hB a5 d.sto.sweep.1 hb
  obtain ⟨e1, e2⟩ := b2.cells
  rw [a1, Option.bind_some]
  dsimp only
  rw [b1, Option.bind_some, e2, Option.bind_some]
  unfold Sto.write0
  by_cases z1 : d.sto.sweep.1 ≠ 0
  · obtain ⟨σc, f1, f2, f3, f4, f5⟩ := b2.put b3 d.sto.sweep.1 hb
    rw [show (d.sto.sweep.1 != 0) = true by simpa using z1, cond_true, Option.bind_some, f1, Option.bind_some, if_pos z1]
    rw [a4] at f2
    exact ⟨_, σc, da, rfl, f3.more (by omega), f2, a3, ⟨by rw [f4]; exact b5.len, fun c hc hn h6 => (f5 c h6).trans (b5.at_ c hc hn h6), b5.foot, b5.s⟩⟩
  rw [show (d.sto.sweep.1 != 0) = false by simpa using z1, cond_false, if_neg z1, e1, Option.bind_some]
  obtain ⟨X1, X2⟩ := is_wr hX b5 hXo
  obtain ⟨σd, dd, g1, g2, g3, g4, g5⟩ := b3.append (by omega) (nm := tilde) X1 (fun c hc => (X2 c hc).1) hl
  rw [a3] at g1 g3
  obtain ⟨σe, h1, h2, h3, h5⟩ := wr_step g2 b2 g5 (d.sto.sweep.2.append tilde xs).1 hb
  obtain ⟨i1, i2⟩ := h2.cells
  unfold tilde at g1
  rw [g1, Option.bind_some]
  dsimp only
  rw [show (⟨#[126]⟩ : ByteArray) = tilde from rfl, h1, Option.bind_some, i2, Option.bind_some]
  have w2 := b5.trans h5
  by_cases z2 : (d.sto.sweep.2.append tilde xs).1 ≠ 0
  · obtain ⟨σc, f1, f2, f3, f4, f5⟩ := h2.put h3 (d.sto.sweep.2.append tilde xs).1 hb
    rw [show ((d.sto.sweep.2.append tilde xs).1 != 0) = true by simpa using z2, cond_true, Option.bind_some, f1, Option.bind_some, if_pos z2]
    rw [g4, a4] at f2
    exact ⟨_, σc, dd, rfl, f3.more (by omega), f2, g3, ⟨by rw [f4]; exact w2.len, fun c hc hn h6 => (f5 c h6).trans (w2.at_ c hc hn h6), w2.foot, w2.s⟩⟩
  rw [show ((d.sto.sweep.2.append tilde xs).1 != 0) = false by simpa using z2, cond_false, if_neg z2, i1, Option.bind_some]
  obtain ⟨σf, df, j1, j2, j3, j4, j5⟩ := h3.sync tilde
  rw [g3] at j1 j3
  obtain ⟨σg, k1, k2, k3, k5⟩ := wr_step j2 h2 j5 ((d.sto.sweep.2.append tilde xs).2.sync tilde).1 hb
  obtain ⟨m1, m2⟩ := k2.cells
  rw [j1, Option.bind_some]
  dsimp only
  rw [k1, Option.bind_some, m2, Option.bind_some]
  have w3 := w2.trans k5
  by_cases z3 : ((d.sto.sweep.2.append tilde xs).2.sync tilde).1 ≠ 0
  · obtain ⟨σc, f1, f2, f3, f4, f5⟩ := k2.put k3 ((d.sto.sweep.2.append tilde xs).2.sync tilde).1 hb
    rw [show (((d.sto.sweep.2.append tilde xs).2.sync tilde).1 != 0) = true by simpa using z3, cond_true, Option.bind_some, f1, Option.bind_some, if_pos z3]
    rw [j4, g4, a4] at f2
    exact ⟨_, σc, df, rfl, f3.more (by omega), f2, j3, ⟨by rw [f4]; exact w3.len, fun c hc hn h6 => (f5 c h6).trans (w3.at_ c hc hn h6), w3.foot, w3.s⟩⟩
  rw [show (((d.sto.sweep.2.append tilde xs).2.sync tilde).1 != 0) = false by simpa using z3, cond_false, if_neg z3, m1, Option.bind_some]
  obtain ⟨σh, dh, q1, q2, q3, q4, q5⟩ := k3.rename tilde nm
  rw [j3] at q1 q3
  obtain ⟨σi, t1, t2, t3, t5⟩ := wr_step q2 k2 q5 (((d.sto.sweep.2.append tilde xs).2.sync tilde).2.rename tilde nm).1 hb
  rw [q1, Option.bind_some]
  dsimp only
  rw [t1, Option.bind_some]
  rw [q4, j4, g4, a4] at t2
  exact ⟨_, σi, dh, rfl, t3.more (by omega), t2, q3, w3.trans t5⟩
end
end Go.Abs.TC
namespace Go.Abs.TC
open Go Go.Abs Go.Proofs

theorem fns53 : T.fn 53 = some Try.f53 ∧ T.fn 57 = some Try.f57 := ⟨by kernel_rfl, by kernel_rfl⟩
theorem body57 : Try.f57.body = some (bodyOf Try.f57) := by kernel_rfl
theorem res57 : Try.f57.results = #[] := by kernel_rfl
theorem nt53 : Try.f53.ntmps = 27 ∧ Try.f57.ntmps = 6 := ⟨by kernel_rfl, by kernel_rfl⟩
theorem res53 : Try.f53.results.toList = [.cell 6 30] := by kernel_rfl
theorem fetch53 (σ : Heap) (b : Nat) : ((T.ti 30).bind fun i => ((some (b, 0) : Pt)).bind fun q => fetches i.shape (fun j => σ.cell? q.1 (q.2 + j)) 0 fun vs => some [i.val vs]) = (int? (σ.cell? b 0) .i64).bind fun x => some [AVal.int .i64 x] := by kernel_rfl
theorem K_write (w : C_shelf_write_1) (h : Ok_file_Store_Delete w.file_Store_Delete) : KnownOK Try.prog T (O_shelf_write_1 w) :=
  known_ok ok (known0_ok) fn_file_Store_Delete (by kernel_rfl) (g2_ok h)
noncomputable def w_shelf_write (s : Pt) (nm : ByteArray) (b : Sl) (σ : Heap) : Option (Int × Heap) := stRel 53 [.ptr s, .str nm, .slice b.b b.o b.n 1] (tInt .i64).av s (fun t => (readU8 σ b).map fun xs => t.write nm xs) σ
theorem ok_shelf_write : Ok_shelf_write w_shelf_write := fun _ _ _ _ _ _ h => stRel_ok h
theorem w_shelf_write_ex {σ0 σ : Heap} {d : SD} {n : Nat} (hR0 : Run σ0 σ d n) (hn : n ≤ 800000) (nm : ByteArray) {b : Sl} {xs : List UInt8} (hX : b.Is eU8 σ xs) (hXo : ∀ c, b.b = some c → c ∉ d.foot) (hl : xs.length ≤ 900) :
    ∃ σ' d', w_shelf_write (some (d.s, 0)) nm b σ = some ((d.sto.write nm xs).1, σ') ∧ St σ' .rw d' ∧ Fr σ d σ' d' ∧ d'.sto = (d.sto.write nm xs).2 := by
  obtain ⟨bb, bo, bn⟩ := b
  refine stRel_ex (op := fun t => (readU8 σ ⟨bb, bo, bn⟩).map fun xs => t.write nm xs) hR0.st (r := d.sto.write nm xs) (by simp only [readU8_eq hX, Option.map_some]) ?_
  have hR : Run σ σ d n := ⟨hR0.st, hR0.left, hR0.size, fun _ _ h => h⟩
  have hp1 := pre_push σ (Blk.row [.ptr (some (d.s, 0))] .rw)
  have hp2 := pre_push (σ ++ [Blk.row [.ptr (some (d.s, 0))] .rw]) (Blk.row [.int .i64 0] .rw)
  have hp := hp1.trans hp2
  have hl4 : (σ ++ [Blk.row [.ptr (some (d.s, 0))] .rw]).length = σ.length + 1 := by simp
  have hlt : ∀ c ∈ d.foot, c < σ.length := fun c hc => hR.st.foot_lt hc
  have hB : Box (σ ++ [Blk.row [.ptr (some (d.s, 0))] .rw] ++ [Blk.row [.int .i64 0] .rw]) d d.s σ.length (σ ++ [Blk.row [.ptr (some (d.s, 0))] .rw]).length 0 :=
    ⟨by rw [get_pre hp2 (by omega)]; exact get_push .., get_push .., fun h => by have := hlt _ h; omega, fun h => by have := hlt _ h; omega, by omega⟩
  have hb : ∀ cs, σ[(σ ++ [Blk.row [.ptr (some (d.s, 0))] .rw]).length]? ≠ some (Blk.row cs .ro) := fun cs h => by
    have := (List.getElem?_eq_some_iff.1 h).1
    omega
  obtain ⟨l, σ', d', r1, r2, r3, r4, r5⟩ := write0_run (hR.pre hp) hn hB hb nm (hX.pre hp) (fun c hc => ⟨hXo c hc, fun e => by have := hX.lt hc; omega⟩) hl
  have ha := code_of ok known0_ok good53s.1 (run53a (σ := σ) (some (d.s, 0)) nm ⟨bb, bo, bn⟩)
  obtain ⟨x1, e1, l1, s1, hk1, hcode⟩ := codeC_sound ok (callC_sound ok (K_shelf_write c_shelf_write ok_file_Store_Append ok_file_Store_Sync ok_shelf_Sweep ok_file_Store_Rename) 0 1) d53 good53s.2.1 r1
  injection hk1 with hk1
  simp only [Prod.mk.injEq] at hk1
  obtain ⟨rfl, he6, rfl, rfl⟩ := hk1
  have hK57 := K_write c_shelf_write_1 ok_file_Store_Delete
  have p1 : c_shelf_write_1.file_Store_Delete = w_file_Store_Delete := rfl
  obtain ⟨q1, q2⟩ := r3.cells
  -- the closure
  have clo : ∃ σ3 d3 y e3 l3, (y = .normal ∨ y = .ret) ∧ CodeOK Try.prog T (bodyOf Try.f57) ([.ptr (some ((σ ++ [Blk.row [.ptr (some (d.s, 0))] .rw]).length, 0)), .ptr (some (σ.length, 0))] ++ List.replicate 4 .undef) (List.replicate 6 .none) s1 y e3 l3 σ3 ∧
      St σ3 .rw d3 ∧ Fr s1 d' σ3 d3 ∧ d3.sto = (Sto.fin ((d.sto.write0 nm xs).1, d'.sto)).2 := by
    have h57 := run57 c_shelf_write_1 σ.length (σ ++ [Blk.row [.ptr (some (d.s, 0))] .rw]).length s1
    rw [p1, q1, q2, Option.bind_some] at h57
    by_cases hz : (d.sto.write0 nm xs).1 ≠ 0
    · obtain ⟨σ3, d3, t1, t2, t3, t4, t5⟩ := r2.delete tilde
      rw [r5.s] at t1
      unfold tilde at t1
      rw [show ((d.sto.write0 nm xs).1 != 0) = true by simpa using hz, cond_true, Option.bind_some, t1, Option.bind_some] at h57
      obtain ⟨y, e3, l3, s3, hk3, hc3⟩ := codeC_sound ok (callC_sound ok hK57 0 1) _ good53s.2.2 h57
      injection hk3 with hk3
      simp only [Prod.mk.injEq] at hk3
      obtain ⟨rfl, rfl, rfl⟩ := hk3
      exact ⟨s3, d3, _, e3, _, .inl rfl, hc3, t2.st, t5, by unfold Sto.fin; rw [if_pos hz]; exact t3⟩
    · rw [show ((d.sto.write0 nm xs).1 != 0) = false by simpa using hz, cond_false] at h57
      obtain ⟨y, e3, l3, s3, hk3, hc3⟩ := codeC_sound ok (callC_sound ok hK57 0 1) _ good53s.2.2 h57
      injection hk3 with hk3
      simp only [Prod.mk.injEq] at hk3
      obtain ⟨rfl, rfl, rfl⟩ := hk3
      exact ⟨s3, d', _, e3, _, .inl rfl, hc3, r2.st, Fr.refl, by unfold Sto.fin; rw [if_neg hz]⟩
  obtain ⟨σ3, d3, y, e3, l3, hy, hc3, c1, c2, c3⟩ := clo
  have hB3 := r3.fr c2
  obtain ⟨_, g2⟩ := hB3.cells
  obtain ⟨o1, o2, o3, o4, o5, o6⟩ := o53
  have hres : resultsC (R := List AVal) T e1 l1 σ3 Try.f53.results.toList (fun vs => some vs) = some [.int .i64 (d.sto.write0 nm xs).1] := by
    rw [res53]
    have := fetch53 σ3 (σ ++ [Blk.row [.ptr (some (d.s, 0))] .rw]).length
    rw [g2, Option.bind_some] at this
    rw [← this]
    simp only [resultsC, resultC, he6]
  have hcall := call_defer ok (caps := [.ptr (some ((σ ++ [Blk.row [.ptr (some (d.s, 0))] .rw]).length, 0)), .ptr (some (σ.length, 0))]) fns53.1 body53 fns53.2 body57 o1 o2 o3 o4 o5 o6 (xs := [.ptr (some (d.s, 0)), .str nm, .slice bb bo bn 1])
    (by rw [nt53.1]; exact ha) rfl (by simp [env53]) rfl rfl hcode (.inr rfl) (by rw [nt53.2]; exact hc3) hy res57 hres
  have e2 : Sto.fin (d.sto.write0 nm xs) = d.sto.write nm xs := rfl
  have ef : (Sto.fin ((d.sto.write0 nm xs).1, d'.sto)) = d.sto.write nm xs := by rw [r4]; exact e2
  have ec : (d.sto.write nm xs).1 = (d.sto.write0 nm xs).1 := by
    rw [← e2]; unfold Sto.fin; split <;> rfl
  rw [ef] at c3
  refine ⟨σ3, d3, by rw [ec]; exact hcall, c1, ?_, c3⟩
  have hlen2 : σ.length ≤ (σ ++ [Blk.row [.ptr (some (d.s, 0))] .rw] ++ [Blk.row [.int .i64 0] .rw]).length := hp.length_le
  exact ⟨Nat.le_trans hlen2 (Nat.le_trans r5.len c2.len), fun c hc hm => (c2.at_ c (by have := r5.len; omega) (fun h => (r5.foot c h).elim hm fun h => by omega)).trans ((r5.at_ c (by omega) hm (by omega)).trans (get_pre hp hc)),
    fun c hc => (c2.foot c hc).elim (fun h => (r5.foot c h).imp id fun h => Nat.le_trans hlen2 h) fun h => .inr (by have := r5.len; omega), c2.s.trans r5.s⟩
end Go.Abs.TC
namespace Go.Abs.TC
open Go Go.Abs Go.Proofs

/-! ### Save -/
def Sto.save (t : Sto) (n : ByteArray) (xs : List UInt8) : Int × Sto := if n = ⟨#[]⟩ then (3, t) else if n.size > 12 then (3, t) else if n = tilde then (3, t) else t.write n xs
noncomputable def c_shelf_Save : C_shelf_Save := { shelf_write := w_shelf_write }
noncomputable def w_shelf_Save (s : Pt) (nm : ByteArray) (b : Sl) (σ : Heap) : Option (Int × Heap) := stRel 31 [.ptr s, .str nm, .slice b.b b.o b.n 1] (tInt .i64).av s (fun t => (readU8 σ b).map fun xs => t.save nm xs) σ
theorem ok_shelf_Save : Ok_shelf_Save w_shelf_Save := fun _ _ _ _ _ _ h => stRel_ok h
theorem w_shelf_Save_ex {σ0 σ : Heap} {d : SD} {n : Nat} (hR : Run σ0 σ d n) (hn : n ≤ 800000) (nm : ByteArray) {b : Sl} {xs : List UInt8} (hX : b.Is eU8 σ xs) (hXo : ∀ c, b.b = some c → c ∉ d.foot) (hl : xs.length ≤ 900) :
    ∃ σ' d', w_shelf_Save (some (d.s, 0)) nm b σ = some ((d.sto.save nm xs).1, σ') ∧ St σ' .rw d' ∧ Fr σ d σ' d' ∧ d'.sto = (d.sto.save nm xs).2 := by
  refine stRel_ex (op := fun t => (readU8 σ b).map fun xs => t.save nm xs) hR.st (r := d.sto.save nm xs) (by simp only [readU8_eq hX, Option.map_some]) ?_
  have p1 : c_shelf_Save.shelf_write = w_shelf_write := rfl
  have hr := shelf_Save_eq (R := AVal × Heap) c_shelf_Save 0 (some (d.s, 0)) nm b σ fun v σ => some (v, σ)
  have hK := K_shelf_Save c_shelf_Save ok_shelf_write
  rw [p1, ba_beq, ba_beq] at hr
  unfold Sto.save
  by_cases h1 : nm = ⟨#[]⟩
  · rw [decide_eq_true h1, cond_true] at hr
    rw [if_pos h1]
    exact ⟨σ, d, call_ok ok hK hr, hR.st, Fr.refl, rfl⟩
  rw [decide_eq_false h1, cond_false] at hr
  rw [if_neg h1]
  by_cases h2 : nm.size > 12
  · rw [decide_eq_true (show (nm.size : Int) > 12 by omega), cond_true] at hr
    rw [if_pos h2]
    exact ⟨σ, d, call_ok ok hK hr, hR.st, Fr.refl, rfl⟩
  rw [decide_eq_false (show ¬ (nm.size : Int) > 12 by omega), cond_false] at hr
  rw [if_neg h2]
  by_cases h3 : nm = tilde
  · rw [decide_eq_true (show nm = ⟨#[126]⟩ from h3), cond_true] at hr
    rw [if_pos h3]
    exact ⟨σ, d, call_ok ok hK hr, hR.st, Fr.refl, rfl⟩
  rw [decide_eq_false (show ¬ nm = ⟨#[126]⟩ from h3), cond_false] at hr
  rw [if_neg h3]
  obtain ⟨σ', d', r1, r2, r3, r4⟩ := w_shelf_write_ex hR hn nm hX hXo hl
  rw [r1, Option.bind_some] at hr
  exact ⟨σ', d', call_ok ok hK hr, r2, r3, r4⟩

/-! ### Names -/
def noTilde (l : List ByteArray) : List ByteArray := l.filter fun n => !decide (n = tilde)
noncomputable def c_shelf_Names : C_shelf_Names := { file_Store_Names := w_file_Store_Names }
noncomputable def w_shelf_Names (s : Pt) (σ : Heap) : Option (Sl × Heap) :=
  wOf (fun d : SD => s = some (d.s, 0) ∧ St σ .rw d) fun d => fresh eStr σ (noTilde d.sto.names).isEmpty (noTilde d.sto.names)
theorem w_shelf_Names_eq {σ : Heap} {d : SD} (h : St σ .rw d) : w_shelf_Names (some (d.s, 0)) σ = some (fresh eStr σ (noTilde d.sto.names).isEmpty (noTilde d.sto.names)) :=
  wOf_eq (P := fun e : SD => some (d.s, 0) = some (e.s, 0) ∧ St σ .rw e) (f := fun d => fresh eStr σ (noTilde d.sto.names).isEmpty (noTilde d.sto.names)) ⟨rfl, h⟩ fun e ⟨h1, h2⟩ => by
    injection h1 with h1
    injection h1 with h1 _
    rw [h.uniq h2 h1]
theorem names_loop {L : Nat} {names : Sl} {σN : Heap} {ns : List ByteArray} (hN : names.Is eStr σN ns) (hs : ns.length ≤ 1000000) :
    ∀ (k i m : Nat) (σ : Heap) (out : Sl), i + k = ns.length → k < m → Mine eStr σN out σ (noTilde (ns.take i)) → (noTilde (ns.take i) = [] → out.b = none) →
      ∃ out' σ', shelf_Names_L3 (R := AVal × Heap) c_shelf_Names L m out names (names.n : Int) (i : Int) σ (fun v σ => some (v, σ)) = some (.slice out'.b out'.o out'.n 1, σ') ∧ Mine eStr σN out' σ' (noTilde ns) ∧ (noTilde ns = [] → out'.b = none)
  | k, i, 0, _, _, _, h, _, _ => by omega
  | 0, i, m + 1, σ, out, hi, _, hM, hZ => by
    rw [List.take_of_length_le (by omega)] at hM hZ
    exact ⟨out, σ, by rw [shelf_Names_L3_eq, hN.n, lt_false (by omega), cond_false], hM, hZ⟩
  | k + 1, i, m + 1, σ, out, hi, hm, hM, hZ => by
    have hil : i < ns.length := by omega
    have hni : (names.n : Int) = (ns.length : Int) := by rw [hN.n]
    have hgi := List.getElem?_eq_getElem hil
    have htk : ns.take (i + 1) = ns.take i ++ [ns[i]] := List.take_succ_eq_append_getElem hil
    generalize ns[i] = x at hgi htk
    obtain ⟨b, b1, b2⟩ := str_cell (hN.pre hM.pre) hgi
    have hlen : (noTilde (ns.take i)).length ≤ i := Nat.le_trans (List.length_filter_le ..) (by rw [List.length_take]; omega)
    rw [shelf_Names_L3_eq, hni, lt_true hil, cond_true, dec0, Bool.and_true, cond_true, b1, Option.bind_some, show ((i : Nat) : Int).toNat = i from rfl, b2, show str? (some (AVal.str x)) = some x from rfl, Option.bind_some, ba_beq]
    by_cases hx : x = tilde
    · have e : noTilde (ns.take (i + 1)) = noTilde (ns.take i) := by rw [htk]; simp [noTilde, hx]
      rw [decide_eq_true (show x = ⟨#[126]⟩ from hx), Bool.not_true, cond_false, wrap_i64_succ i (by omega), ← hni]
      exact names_loop hN hs k (i + 1) m σ out (by omega) (by omega) (by rw [e]; exact hM) (by rw [e]; exact hZ)
    · have e : noTilde (ns.take (i + 1)) = noTilde (ns.take i) ++ [x] := by rw [htk]; simp [noTilde, hx]
      obtain ⟨q, σ1, h1, h2⟩ := hM.append (zs := [x]) (bytes := 16) (vs := [.str x]) (k := 1) rfl rfl (by simp; omega) (by simp; omega)
      have h1' : σ.append out.b out.o out.n 1 16 [.str x] 1 = some (q, σ1) := h1
      rw [decide_eq_false (show ¬ x = ⟨#[126]⟩ from hx), Bool.not_false, cond_true, h1', Option.bind_some, wrap_i64_succ i (by omega), ← hni]
      exact names_loop hN hs k (i + 1) m σ1 _ (by omega) (by omega) (by rw [e]; exact h2) (by rw [e]; simp)
theorem ok_shelf_Names : Ok_shelf_Names w_shelf_Names := fun s σ v σ' hw => by
  obtain ⟨d, ⟨rfl, hd⟩, e⟩ := wOf_some hw
  have e1 : v = (fresh eStr σ (noTilde d.sto.names).isEmpty (noTilde d.sto.names)).1 := (congrArg Prod.fst e).symm
  have e2 : σ' = (fresh eStr σ (noTilde d.sto.names).isEmpty (noTilde d.sto.names)).2 := (congrArg Prod.snd e).symm
  subst e1; subst e2
  have p1 : c_shelf_Names.file_Store_Names = w_file_Store_Names := rfl
  have n1 := w_file_Store_Names_eq (m := .rw) trivial hd
  have hnd := d.names_sto
  have hfl : (namesD d).length = d.fs.length := by simp [namesD, sortN]
  have he : d.fs.isEmpty = true → namesD d = [] := fun he => List.eq_nil_of_length_eq_zero (by rw [hfl]; simpa using he)
  have A := fresh_own eStr σ d.fs.isEmpty (namesD d) he
  have AP := fresh_pre eStr σ d.fs.isEmpty (namesD d)
  have hsz := hd.sz
  have hr := shelf_Names_eq (R := AVal × Heap) c_shelf_Names ((namesD d).length + 1) (some (d.s, 0)) σ fun v σ => some (v, σ)
  rw [p1, n1, Option.bind_some] at hr
  rw [hnd] at *
  generalize fresh eStr σ d.fs.isEmpty (namesD d) = q at A AP hr
  obtain ⟨out, σ1, r1, r2, r3⟩ := names_loop (L := (namesD d).length + 1) (A.is (by omega)) (by omega) (namesD d).length 0 ((namesD d).length + 1) q.2 ⟨none, 0, 0⟩ (by omega) (by omega) (Mine.start q.2) (fun _ => rfl)
  have hM : Mine eStr σ out σ1 (noTilde (namesD d)) := ⟨AP.trans r2.pre, r2.own, fun c hc => Nat.le_trans AP.length_le (r2.new c hc)⟩
  refine call_mine (z := 1) (call_ok ok (K_shelf_Names c_shelf_Names ok_file_Store_Names) (hr.trans r1)) hM ?_
  cases hn : noTilde (namesD d) with
  | nil =>
    rw [r3 hn]; rfl
  | cons x l =>
    rw [hn] at hM
    rw [Own.some_of_ne hM.own (by simp)]
    rfl
end Go.Abs.TC
namespace Go.Abs.TC
open Go Go.Abs Go.Proofs

theorem readV_len' {σ : Heap} {m : Mode} (hm : Mode.rd m) {d : SD} {nm : ByteArray} (h : St σ m d) : (readV d nm).2.2.length ≤ 1000000 ∧ ((readV d nm).2.1 = true → (readV d nm).2.2 = []) := by
  unfold readV
  cases hd : d.down with
  | true => exact ⟨Nat.zero_le _, fun _ => rfl⟩
  | false =>
    cases hg : d.get nm with
    | none => exact ⟨Nat.zero_le _, fun _ => rfl⟩
    | some f =>
      have hfm := (getK_mem hg).1
      have g := h.file f hfm
      have hl := usedF_mem hfm
      have := h.sz
      refine ⟨show f.data.length ≤ _ by omega, fun hb => ?_⟩
      have hi := g.is (m := m) hm (by omega)
      have hb' : f.sl.b = none := by simpa using hb
      rcases hi.at_ with ⟨_, _, e⟩ | ⟨c, cs, e, _⟩
      · exact e
      · rw [hb'] at e; cases e
/-! ### Get -/
def getS (d : SD) (n : ByteArray) : law19_One := ⟨⟨(readS d.sto n).2.toArray⟩, sureV d n, (readS d.sto n).1 == 0⟩
noncomputable def c_law19_Get : C_law19_Get := { file_Store_Read := w_file_Store_Read, file_Store_Sure := w_file_Store_Sure }
noncomputable def w_law19_Get (s : Pt) (n : ByteArray) (σ : Heap) : Option (law19_One × Heap) := wOf (fun d : SD => s = some (d.s, 0) ∧ ∃ m, Mode.rd m ∧ St σ m d) fun d => (getS d n, σ)
theorem w_law19_Get_eq {σ : Heap} {m : Mode} {d : SD} (hm : Mode.rd m) (h : St σ m d) (n : ByteArray) : w_law19_Get (some (d.s, 0)) n σ = some (getS d n, σ) :=
  wOf_eq (P := fun e : SD => some (d.s, 0) = some (e.s, 0) ∧ ∃ m, Mode.rd m ∧ St σ m e) (f := fun d => (getS d n, σ)) ⟨rfl, m, hm, h⟩ fun e ⟨h1, m', _, h2⟩ => by
    injection h1 with h1
    injection h1 with h1 _
    rw [h.uniq h2 h1]
theorem ok_law19_Get : Ok_law19_Get w_law19_Get := fun s n σ v σ' hw => by
  obtain ⟨d, ⟨rfl, m, hm, hd⟩, e⟩ := wOf_some hw
  injection e with e1 e2
  subst e1; subst e2
  have p1 : c_law19_Get.file_Store_Read = w_file_Store_Read := rfl
  have p2 : c_law19_Get.file_Store_Sure = w_file_Store_Sure := rfl
  have hr := law19_Get_eq (R := AVal × Heap) c_law19_Get 0 (some (d.s, 0)) n σ fun v σ => some (v, σ)
  obtain ⟨e1, e2⟩ := readV_sto d n
  obtain ⟨l1, l2⟩ := readV_len' (nm := n) hm hd
  have A := fresh_own eU8 σ (readV d n).2.1 (readV d n).2.2 l2
  have AP := fresh_pre eU8 σ (readV d n).2.1 (readV d n).2.2
  have hread := w_file_Store_Read_eq hm hd n
  rw [e1] at hread
  rw [e2] at hread A AP
  generalize fresh eU8 σ (readV d n).2.1 (readS d.sto n).2 = q at A AP hread
  have hl2 : (readS d.sto n).2.length ≤ 1000000 := by rw [← e2]; exact l1
  have hrd := (A.is (by omega)).read
  have hz : eU8.z = 1 := rfl
  rw [hz] at hrd
  have hsure : w_file_Store_Sure (some (d.s, 0)) n q.2.frz = some (sureV d n, q.2.frz) := rdRel_eq (m := .ro) (f := fun d => sureV d n) trivial ((hd.pre AP).toRO hm)
  rw [p1, p2, hread, Option.bind_some] at hr
  dsimp only at hr
  rw [hrd, Option.bind_some, bytes_all, Option.bind_some, hsure, Option.bind_some] at hr
  dsimp only at hr
  rw [Heap.back_frz] at hr
  exact call_gc0 (call_ok ok (K_law19_Get c_law19_Get ok_file_Store_Read ok_file_Store_Sure) hr) (fun b hb => get_pre AP hb) ⟨trivial, trivial, trivial, trivial⟩
end Go.Abs.TC
namespace Go.Abs.TC
open Go Go.Abs Go.Proofs

/-! ### small -/
def smallC (c : law04_Call) : Bool := decide (c.Data.n ≤ 100) && decide (c.Name.size ≤ 20) && decide (c.To.size ≤ 20)
theorem small_loop {L : Nat} {calls : Sl} {σ : Heap} {cs : List law04_Call} (hC : calls.Is eCall σ cs) (hl : cs.length ≤ 100) :
    ∀ (k i m : Nat), i + k = cs.length → k < m → law19_small_L4 (R := AVal × Heap) L m calls (i : Int) σ (fun v σ => some (v, σ)) = some (.bool ((cs.drop i).all smallC), σ)
  | k, i, 0, _, h => by omega
  | 0, i, m + 1, hi, _ => by
    rw [law19_small_L4_eq, hC.n, lt_false (by omega), cond_false, List.drop_of_length_le (by omega)]
    rfl
  | k + 1, i, m + 1, hi, hm => by
    have hil : i < cs.length := by omega
    obtain ⟨b, hb, e0, e1, e2, e3, e4⟩ := call_cells hC (List.getElem?_eq_getElem hil)
    rw [law19_small_L4_eq, hC.n, lt_true hil, cond_true, dec0, Bool.and_true, cond_true, hb, Option.bind_some, show ((i : Nat) : Int).toNat = i from rfl, e0, Option.bind_some, e1, Option.bind_some, e2, Option.bind_some, e3, Option.bind_some, e4, Option.bind_some]
    dsimp only
    rw [List.drop_eq_getElem_cons hil, List.all_cons]
    by_cases h1 : cs[i].Data.n ≤ 100
    · rw [decide_eq_false (show ¬ ((cs[i].Data.n : Int) > 100) by omega), cond_false]
      by_cases h2 : cs[i].Name.size ≤ 20
      · rw [decide_eq_false (show ¬ ((cs[i].Name.size : Int) > 20) by omega), cond_false]
        by_cases h3 : cs[i].To.size ≤ 20
        · rw [decide_eq_false (show ¬ ((cs[i].To.size : Int) > 20) by omega), cond_false, wrap_i64_succ i (by omega), small_loop hC hl k (i + 1) m (by omega) (by omega)]
          simp [smallC, h1, h2, h3]
        · rw [decide_eq_true (show ((cs[i].To.size : Int) > 20) by omega), cond_true]
          simp [smallC, h3]
      · rw [decide_eq_true (show ((cs[i].Name.size : Int) > 20) by omega), cond_true]
        simp [smallC, h2]
    · rw [decide_eq_true (show ((cs[i].Data.n : Int) > 100) by omega), cond_true]
      simp [smallC, h1]
noncomputable def w_law19_small (calls : Sl) (σ : Heap) : Option (Bool × Heap) :=
  if calls.n > 60 then some (false, σ) else wOf (fun cs => calls.Is eCall σ cs) fun cs => (cs.all smallC, σ)
theorem ok_law19_small : Ok_law19_small w_law19_small := fun calls σ v σ' h => by
  unfold w_law19_small at h
  split at h
  · rename_i hn
    injection h with h
    injection h with h1 h2
    subst h1; subst h2
    refine call_ok ok known0_ok (L := 0) (n := 2) ((law19_small_eq 0 calls σ _).trans ?_)
    rw [decide_eq_true (show (calls.n : Int) > 60 by omega), cond_true]
    rfl
  · rename_i hn
    obtain ⟨cs, hC, e⟩ := wOf_some h
    injection e with e1 e2
    subst e1; subst e2
    have hcl : cs.length ≤ 60 := by rw [← hC.n]; omega
    refine call_ok ok known0_ok (L := cs.length + 1) (n := 2) ((law19_small_eq (cs.length + 1) calls σ _).trans ?_)
    rw [decide_eq_false (show ¬ (calls.n : Int) > 60 by omega), cond_false]
    exact small_loop hC (by omega) cs.length 0 (cs.length + 1) (by omega) (by omega)
theorem w_law19_small_eq {calls : Sl} {σ : Heap} {cs : List law04_Call} {ps : List PCall} (h : CallsArg σ calls cs ps) :
    (w_law19_small calls σ = some (false, σ)) ∨ (w_law19_small calls σ = some (true, σ) ∧ CallsIs σ calls cs ps ∧ cs.length ≤ 60) := by
  unfold w_law19_small
  by_cases hn : calls.n > 60
  · rw [if_pos hn]; exact .inl rfl
  · rw [if_neg hn]
    have hn' := h.n
    have hC := h.is (by omega)
    have e := wOf_eq (P := fun cs => calls.Is eCall σ cs) (f := fun cs => (cs.all smallC, σ)) hC fun y hy => by rw [hy.uniq (by decide) hC]
    rw [e]
    cases ha : cs.all smallC with
    | false => exact .inl rfl
    | true =>
      rw [List.all_eq_true] at ha
      refine .inr ⟨rfl, ⟨hC, h.ro, h.len, by omega, fun i c p hc hp => ?_⟩, by omega⟩
      obtain ⟨e1, e2, e3, e4, e5, e6, e7, e8⟩ := h.each i c p hc hp
      have := ha c (List.mem_of_getElem? hc)
      simp only [smallC, Bool.and_eq_true, decide_eq_true_eq] at this
      exact ⟨e1, e2, e3, e4, e6 (by omega), e7, e8, by omega⟩

/-! ### Do -/
def Sto.doS (t : Sto) (p : PCall) : Sto := if kindI p.Kind < 6 then (t.doC p).2 else t
noncomputable def c_law19_Do : C_law19_Do := { file_Store_Append := w_file_Store_Append, file_Store_Sync := w_file_Store_Sync, file_Store_Rename := w_file_Store_Rename, file_Store_Delete := w_file_Store_Delete, file_Store_Cut := w_file_Store_Cut }
noncomputable def w_law19_Do (s : Pt) (c : law04_Call) (σ : Heap) : Option (Unit × Heap) := stRel 34 [.ptr s, t_law04_Call.av c] tVoid.av s (fun t => (readC σ c).map fun p => ((), t.doS p)) σ
theorem ok_law19_Do : Ok_law19_Do w_law19_Do := fun _ _ _ _ _ h => stRel_ok h
theorem w_law19_Do_ex {σ : Heap} {d : SD} (h : St σ .rw d) (hl : LeftOk d) {c : law04_Call} {p : PCall} (hc : CallIs σ c p) (hroom : usedF d.fs + d.fs.length ≤ 900000) :
    ∃ σ' d', w_law19_Do (some (d.s, 0)) c σ = some ((), σ') ∧ St σ' .rw d' ∧ Fr σ d σ' d' ∧ d'.sto = d.sto.doS p := by
  refine stRel_ex (op := fun t => (readC σ c).map fun p => ((), t.doS p)) h (r := ((), d.sto.doS p)) (by simp only [readC_eq hc, Option.map_some]) ?_
  have hlen := hc.len
  have hdata := hc.data
  have hro := hc.ro
  have q1 := hc.kind
  have q2 := hc.n
  have q3 := hc.name
  have q4 := hc.to
  clear hc
  obtain ⟨ck, cn, cname, cto, cdata⟩ := c
  obtain ⟨pk, pn, pname, pto, pdata⟩ := p
  dsimp only at q1 q2 q3 q4 hlen hdata hro
  subst q1; subst q2; subst q3; subst q4
  have p5 : c_law19_Do.file_Store_Append = w_file_Store_Append := rfl
  have p1 : c_law19_Do.file_Store_Sync = w_file_Store_Sync := rfl
  have p2 : c_law19_Do.file_Store_Rename = w_file_Store_Rename := rfl
  have p3 : c_law19_Do.file_Store_Delete = w_file_Store_Delete := rfl
  have p4 : c_law19_Do.file_Store_Cut = w_file_Store_Cut := rfl
  have hr := law19_Do_eq (R := AVal × Heap) c_law19_Do 0 (some (d.s, 0)) ⟨ck, cn, cname, cto, cdata⟩ σ fun v σ => some (v, σ)
  have hK := K_law19_Do c_law19_Do ok_file_Store_Append ok_file_Store_Sync ok_file_Store_Rename ok_file_Store_Delete ok_file_Store_Cut
  rw [p1, p2, p3, p4, p5] at hr
  dsimp only at hr
  change _ = (bif (kindI ck == 2) then _ else bif (kindI ck == 3) then _ else bif (kindI ck == 4) then _ else bif (kindI ck == 5) then _ else bif (kindI ck == 0) then (bif (kindI ck == 0) then _ else _) else bif (kindI ck == 1) then _ else _) at hr
  obtain ⟨kk, k7', hkk⟩ := kindI_lt ck
  unfold Sto.doS Sto.doC
  dsimp only
  by_cases k2 : kindI ck = 2
  · obtain ⟨σ', d', r1, r2⟩ := w_file_Store_Sync_ex h hl cname
    rw [show (kindI ck == 2) = true by simpa using k2, cond_true, r1, Option.bind_some] at hr
    rw [if_pos (by omega), if_pos k2]
    exact ⟨σ', d', call_ok ok hK hr, r2⟩
  rw [show (kindI ck == 2) = false by simpa using k2, cond_false] at hr
  rw [if_neg k2]
  by_cases k3 : kindI ck = 3
  · obtain ⟨σ', d', r1, r2⟩ := w_file_Store_Rename_ex h hl cname cto
    rw [show (kindI ck == 3) = true by simpa using k3, cond_true, r1, Option.bind_some] at hr
    rw [if_pos (by omega), if_pos k3]
    exact ⟨σ', d', call_ok ok hK hr, r2⟩
  rw [show (kindI ck == 3) = false by simpa using k3, cond_false] at hr
  rw [if_neg k3]
  by_cases k4 : kindI ck = 4
  · obtain ⟨σ', d', r1, r2⟩ := w_file_Store_Delete_ex h hl cname
    rw [show (kindI ck == 4) = true by simpa using k4, cond_true, r1, Option.bind_some] at hr
    rw [if_pos (by omega), if_pos k4]
    exact ⟨σ', d', call_ok ok hK hr, r2⟩
  rw [show (kindI ck == 4) = false by simpa using k4, cond_false] at hr
  rw [if_neg k4]
  by_cases k5 : kindI ck = 5
  · obtain ⟨σ', d', r1, r2⟩ := w_file_Store_Cut_ex h hl cname cn
    rw [show (kindI ck == 5) = true by simpa using k5, cond_true, r1, Option.bind_some] at hr
    rw [if_pos (by omega), if_pos k5]
    exact ⟨σ', d', call_ok ok hK hr, r2⟩
  rw [show (kindI ck == 5) = false by simpa using k5, cond_false] at hr
  rw [if_neg k5]
  by_cases k0 : kindI ck = 0
  · obtain ⟨σ', d', r1, r2⟩ := w_file_Store_Append_ex h hl cname hdata (hro.out h) (by omega)
    rw [show (kindI ck == 0) = true by simpa using k0, cond_true, cond_true, r1, Option.bind_some] at hr
    rw [if_pos (by omega), if_neg (by omega), if_neg (by omega)]
    exact ⟨σ', d', call_ok ok hK hr, r2⟩
  rw [show (kindI ck == 0) = false by simpa using k0, cond_false] at hr
  by_cases k1 : kindI ck = 1
  · obtain ⟨σ', d', r1, r2⟩ := w_file_Store_Append_ex h hl cname hdata (hro.out h) (by omega)
    rw [show (kindI ck == 1) = true by simpa using k1, cond_true, r1, Option.bind_some] at hr
    rw [if_pos (by omega), if_neg (by omega), if_neg (by omega)]
    exact ⟨σ', d', call_ok ok hK hr, r2⟩
  rw [show (kindI ck == 1) = false by simpa using k1, cond_false] at hr
  rw [if_neg (by omega)]
  exact ⟨σ, d, call_ok ok hK hr, h, Fr.refl, rfl⟩
end Go.Abs.TC
namespace Go.Abs.TC
open Go Go.Abs Go.Proofs

noncomputable def c_law19_fit : C_law19_fit := { file_New := w_file_New, file_Store_Crash := w_file_Store_Crash, file_Store_Read := w_file_Store_Read, shelf_Save := w_shelf_Save, shelf_Names := w_shelf_Names }
def t_fit19 : Sto := ⟨[⟨strA, [120, 121], 2⟩], 20, false, 0, false⟩
theorem fit19_save : (sto0 20).save strA [120, 121] = (0, t_fit19) := by kernel_rfl
theorem fit19_names : t_fit19.names = [strA] := sortN_one strA
theorem fit19_crash : t_fit19.crash [] = t_fit19 := by
  have e : crashGo [] [strA] 0 t_fit19.fs = t_fit19.fs := by kernel_rfl
  unfold Sto.crash
  rw [fit19_names, e]
  rfl
noncomputable def w_law19_fit (σ : Heap) : Option (Bool × Heap) := some (true, σ)
theorem ok_law19_fit : Ok_law19_fit w_law19_fit := fun σ v σ' h => by
  injection h with h
  injection h with h1 h2
  subst h1; subst h2
  have p1 : c_law19_fit.file_New = w_file_New := rfl
  have p2 : c_law19_fit.file_Store_Crash = w_file_Store_Crash := rfl
  have p3 : c_law19_fit.shelf_Save = w_shelf_Save := rfl
  have p4 : c_law19_fit.file_Store_Read = w_file_Store_Read := rfl
  have p5 : c_law19_fit.shelf_Names = w_shelf_Names := rfl
  have hr := law19_fit_eq (R := AVal × Heap) c_law19_fit 0 σ fun v σ => some (v, σ)
  obtain ⟨σ1, d, a1, a2, a3, a4, a5⟩ := Run.new 20 (by decide) σ
  have aA : Apart σ σ1 d := ⟨a4.length_le, fun b hb => get_pre a4 hb, a5⟩
  have b2 := a2.pre (pre_push σ1 (.row [.int .u8 120, .int .u8 121] .rw))
  have bA := aA.pre (pre_push σ1 (.row [.int .u8 120, .int .u8 121] .rw))
  have hb : Sl.Is ⟨some σ1.length, 0, 2⟩ eU8 (σ1 ++ [.row [.int .u8 120, .int .u8 121] .rw]) [120, 121] := (Sl.Own.row (E := eU8) (xs := [120, 121]) σ1.length rfl rfl rfl (get_push ..)).is (by decide)
  obtain ⟨σ3, d3, c1, c2, c5, c3⟩ := w_shelf_Save_ex b2 (by decide) strA hb (fun c hc hm => by injection hc with hc; have := a2.st.foot_lt hm; omega) (by decide)
  have cA := bA.fr c5
  rw [a3, fit19_save] at c1 c3
  obtain ⟨σ5, d5, f1, f2, f5, f4⟩ := w_file_Store_Crash_ex c2 (keep := ⟨none, 0, 0⟩) (ks := []) Sl.Is.nil (fun c hc => by cases hc)
  have fA := cA.fr f5
  rw [c3, fit19_crash] at f4
  have hd : some (d5.s, 0) = some (d3.s, 0) := by rw [f5.s]
  have hd3 : some (d3.s, 0) = some (d.s, 0) := by rw [c5.s]
  have f6 : Run σ5 σ5 d5 100 := ⟨f2, by rw [f4]; exact fun h => (by cases h), by rw [f4]; decide, fun _ _ h => h⟩
  obtain ⟨sl, σ6, g1, g2, g3, g4, _⟩ := f6.read strA
  have gA := fA.pre g4
  have hS : readS t_fit19 strA = (0, [120, 121]) := by kernel_rfl
  rw [f4, hS] at g1 g2
  have n1 := w_shelf_Names_eq g3.st
  have hnt : noTilde d5.sto.names = [strA] := by rw [f4, fit19_names]; rfl
  rw [hnt] at n1
  have AP := fresh_pre eStr σ6 ([strA] : List ByteArray).isEmpty [strA]
  have An := fresh_n eStr σ6 ([strA] : List ByteArray).isEmpty [strA] (fun h => by cases h)
  generalize fresh eStr σ6 ([strA] : List ByteArray).isEmpty [strA] = q at n1 AP An
  rw [p1, a1, Option.bind_some, p3] at hr
  simp only [alloc, Option.isNone_some, cond_false] at hr
  rw [show Heap.rwRow (σ1 ++ [.row [.int .u8 120, .int .u8 121] .rw]) σ1.length = some () by unfold Heap.rwRow; rw [get_push], Option.bind_some] at hr
  unfold strA at c1 g1
  rw [c1, Option.bind_some, p2] at hr
  dsimp only at hr
  rw [← hd3, f1, Option.bind_some, p4, ← hd, g1, Option.bind_some] at hr
  dsimp only at hr
  have hread := g2.read
  have hz : eU8.z = 1 := rfl
  rw [hz] at hread
  rw [beq_self_eq_true, cond_true, cond_true, hread, Option.bind_some, bytes_all, Option.bind_some, beq_self_eq_true, cond_true, p5, n1, Option.bind_some, An] at hr
  exact call_gc0 (call_ok ok (K_law19_fit c_law19_fit ok_file_New ok_file_Store_Crash ok_file_Store_Read ok_shelf_Save ok_shelf_Names) hr) (gA.pre AP).at_ trivial
end Go.Abs.TC
namespace Go.Abs.TC
open Go Go.Abs Go.Proofs

theorem doS_all (t : Sto) (p : PCall) (hl : LeftOkS t) : LeftOkS (t.doS p) ∧ (t.doS p).size ≤ t.size + p.Data.length + 1 ∧ (t.doS p).quota = t.quota := by
  unfold Sto.doS
  by_cases hk : kindI p.Kind < 6
  · rw [if_pos hk]
    have D := doC_done t p hk
    exact ⟨D.left hl, D.size, D.quota⟩
  · rw [if_neg hk]
    exact ⟨hl, by omega, rfl⟩
section
variable {σ0 σ σ' : Heap} {d : SD} {n : Nat}
theorem Run.doS (h : Run σ0 σ d n) (hn : n ≤ 900000) {c : law04_Call} {p : PCall} (hc : CallIs σ0 c p) :
    ∃ σ' d', w_law19_Do (some (d.s, 0)) c σ = some ((), σ') ∧ Run σ0 σ' d' (n + 101) ∧ d'.sto = d.sto.doS p ∧ d'.s = d.s ∧ Fr σ d σ' d' := by
  have hs := h.size
  rw [d.size_sto] at hs
  obtain ⟨σ', d', r1, r2, r3, r4⟩ := w_law19_Do_ex h.st (LeftOk.of h.left) (hc.keep h.ro) (by omega)
  obtain ⟨a1, a2, a3⟩ := doS_all d.sto p h.left
  have := h.size
  have := hc.len
  exact ⟨σ', d', r1, ⟨r2, by rw [r4]; exact a1, by rw [r4]; omega, h.ro.trans (ro_fr r3 h.st)⟩, r4, r3.s, r3⟩
theorem Run.get (h : Run σ0 σ d n) (nm : ByteArray) : w_law19_Get (some (d.s, 0)) nm σ = some (getS d nm, σ) := w_law19_Get_eq (m := .rw) trivial h.st nm
theorem Run.getz (h : Run σ0 σ d n) (nm : ByteArray) : w_law19_Get (some (d.s, 0)) nm σ.frz = some (getS d nm, σ.frz) := w_law19_Get_eq (m := .ro) trivial h.st.frz nm
end
/-- What Get tells is told by the store. -/
def getT (t : Sto) (n : ByteArray) : law19_One := ⟨⟨(readS t n).2.toArray⟩, (match t.get n with | some f => (f.sure : Int) | none => 0), (readS t n).1 == 0⟩
theorem getS_sto (d : SD) (n : ByteArray) : getS d n = getT d.sto n := by
  unfold getS getT
  have : sureV d n = (match d.sto.get n with | some f => (f.sure : Int) | none => 0) := by
    unfold sureV
    rw [d.get_sto]
    cases d.get n <;> rfl
  rw [this]
/-- What is done to one file is not seen at another. -/
theorem get_del {t : Sto} (hG : (t.fs.map Fil.name).Nodup) {n m : ByteArray} (h : m ≠ n) : ({ t with fs := delK Fil.name n t.fs } : Sto).get m = t.get m := by
  show getK Fil.name m (delK Fil.name n t.fs) = _
  rw [getK_del hG, if_neg h]
  rfl
end Go.Abs.TC
namespace Go.Abs.TC
open Go Go.Abs Go.Proofs

theorem get_put' (t : Sto) (f : Fil) (m : ByteArray) : (t.put f).get m = if f.name = m then some f else t.get m := getK_put f m t.fs
theorem get_change' (t : Sto) (m : ByteArray) : t.change.2.get m = t.get m := by
  unfold Sto.get
  rw [(change_get t).1]
def NodS (t : Sto) : Prop := (t.fs.map Fil.name).Nodup
theorem nod_change {t : Sto} (h : NodS t) : NodS t.change.2 := by
  unfold NodS
  rw [(change_get t).1]
  exact h
theorem onFile_get {t : Sto} {n m : ByteArray} {h : Fil → Sto → Sto} (hh : ∀ f u, t.get n = some f → u.fs = t.fs → (h f u).get m = t.get m) : (t.onFile n h).2.get m = t.get m := by
  cases hd : t.down with
  | true => rw [onFile_down hd]
  | false =>
    cases hg : t.get n with
    | none => rw [onFile_none hd hg]
    | some f =>
      by_cases hc : t.change.1 = 0
      · rw [onFile_yes hd hg hc]; exact hh f _ hg (change_get t).1
      · rw [onFile_no hd hg hc]; exact get_change' t m
theorem get_same {t u : Sto} (h : u.fs = t.fs) (m : ByteArray) : u.get m = t.get m := by unfold Sto.get; rw [h]
theorem append_other {t : Sto} {n m : ByteArray} {xs : List UInt8} (h : n ≠ m) : (t.append n xs).2.get m = t.get m := by
  unfold Sto.append
  split
  · rfl
  split
  · rfl
  split
  · rfl
  split
  · dsimp only
    rw [get_put', get_change']
    cases hg : t.get n with
    | none => exact if_neg h
    | some f => exact if_neg (show ¬ f.name = m by rw [(getK_mem hg).2]; exact h)
  · exact get_change' t m
theorem doS_other {t : Sto} {p : PCall} {m : ByteArray} (hN : NodS t) (h1 : p.Name ≠ m) (h2 : p.To ≠ m) : (t.doS p).get m = t.get m := by
  unfold Sto.doS
  split
  · rename_i hk
    unfold Sto.doC
    split
    · refine onFile_get fun f u hg hu => ?_
      rw [get_put', if_neg (show ¬ f.name = m by rw [(getK_mem hg).2]; exact h1)]
      exact get_same hu m
    split
    · unfold Sto.rename
      split
      · rfl
      · refine onFile_get fun f u hg hu => ?_
        rw [get_put', if_neg h2]
        exact (get_del (show (u.fs.map Fil.name).Nodup by rw [hu]; exact hN) (Ne.symm h1)).trans (get_same hu m)
    split
    · refine onFile_get fun f u hg hu => ?_
      exact (get_del (show (u.fs.map Fil.name).Nodup by rw [hu]; exact hN) (Ne.symm h1)).trans (get_same hu m)
    split
    · refine onFile_get fun f u hg hu => ?_
      rw [get_put', if_neg (show ¬ f.name = m by rw [(getK_mem hg).2]; exact h1)]
      exact get_same hu m
    split
    · omega
    split
    · omega
    exact append_other h1
  · rfl
/-! ### A crash -/
/-- All of it is sure. -/
def Fil.all (f : Fil) : Prop := f.sure = f.data.length
theorem crashF_all {f : Fil} (h : f.all) (more : Nat) : crashF more f = f := by
  unfold Fil.all at h
  have : crashN more f = f.data.length := by unfold crashN; omega
  unfold crashF
  rw [this, List.take_length, ← h]
theorem crash1_get' {more : Nat} {n m : ByteArray} {fs : List Fil} : (getK Fil.name m fs = none → getK Fil.name m (crash1 more n fs) = none) ∧
    (∀ f, f.all → getK Fil.name m fs = some f → getK Fil.name m (crash1 more n fs) = some f) := by
  unfold crash1
  cases hg : getK Fil.name n fs with
  | none => exact ⟨id, fun _ _ h => h⟩
  | some g =>
    dsimp only
    have hn : g.name = n := (getK_mem hg).2
    rw [getK_put]
    by_cases e : (crashF more g).name = m
    · have e' : n = m := hn.symm.trans e
      subst e'
      refine ⟨fun h => (by rw [hg] at h; cases h), fun f hf h => ?_⟩
      rw [hg] at h
      injection h with h
      subst h
      rw [if_pos e, crashF_all hf]
    · rw [if_neg e]; exact ⟨id, fun _ _ h => h⟩
theorem crashGo_get' {ks : List Int} {m : ByteArray} : ∀ (ns : List ByteArray) (i : Nat) {fs : List Fil}, (getK Fil.name m fs = none → getK Fil.name m (crashGo ks ns i fs) = none) ∧
    (∀ f, f.all → getK Fil.name m fs = some f → getK Fil.name m (crashGo ks ns i fs) = some f)
  | [], _, fs => ⟨id, fun _ _ h => h⟩
  | n :: ns, i, fs => by
    obtain ⟨h1, h2⟩ := crash1_get' (more := keepAt ks i) (n := n) (m := m) (fs := fs)
    obtain ⟨h3, h4⟩ := crashGo_get' (ks := ks) (m := m) ns (i + 1) (fs := crash1 (keepAt ks i) n fs)
    exact ⟨fun h => h3 (h1 h), fun f hf h => h4 f hf (h2 f hf h)⟩
theorem crash_none {t : Sto} {ks : List Int} {m : ByteArray} (h : t.get m = none) : (t.crash ks).get m = none := (crashGo_get' t.names 0).1 h
theorem crash_all {t : Sto} {ks : List Int} {m : ByteArray} {f : Fil} (hf : f.all) (h : t.get m = some f) : (t.crash ks).get m = some f := (crashGo_get' t.names 0).2 f hf h
/-- What lasts: none, or a file all of which is sure. -/
def Lasts (t : Sto) (m : ByteArray) : Prop := ∀ f, t.get m = some f → f.all
theorem crash_lasts {t : Sto} {ks : List Int} {m : ByteArray} (h : Lasts t m) : (t.crash ks).get m = t.get m := by
  cases hg : t.get m with
  | none => exact crash_none hg
  | some f => exact crash_all (h f hg) hg
theorem crashF_sured (more : Nat) (f : Fil) (h : f.sure ≤ f.data.length) : (crashF more f).all := by
  unfold Fil.all crashF
  dsimp only
  rw [List.length_take]
  unfold crashN
  omega
theorem crash1_mem {more : Nat} {n : ByteArray} {fs : List Fil} (hs : ∀ f ∈ fs, f.sure ≤ f.data.length) : ∀ f ∈ crash1 more n fs, f.sure ≤ f.data.length := by
  unfold crash1
  cases hg : getK Fil.name n fs with
  | none => exact hs
  | some g =>
    dsimp only
    intro f hf
    rcases mem_putK hf with rfl | hf
    · exact Nat.le_of_eq (crashF_sured more g (hs g (getK_mem hg).1))
    · exact hs f hf
/-- A crash leaves each file that is named all sure. -/
theorem crashGo_lasts {ks : List Int} {m : ByteArray} : ∀ (ns : List ByteArray) (i : Nat) {fs : List Fil}, (∀ f ∈ fs, f.sure ≤ f.data.length) → m ∈ ns → ∀ f, getK Fil.name m (crashGo ks ns i fs) = some f → f.all
  | n :: ns, i, fs, hs, hm, f, h => by
    by_cases e : n = m
    · subst e
      have h' : getK Fil.name n (crashGo ks ns (i + 1) (crash1 (keepAt ks i) n fs)) = some f := h
      cases hg : getK Fil.name n fs with
      | none =>
        have := (crashGo_get' (ks := ks) ns (i + 1)).1 ((crash1_get' (more := keepAt ks i) (n := n)).1 hg)
        rw [this] at h'
        cases h'
      | some g =>
        have hn : g.name = n := (getK_mem hg).2
        have ha := crashF_sured (keepAt ks i) g (hs g (getK_mem hg).1)
        have h1 : getK Fil.name n (crash1 (keepAt ks i) n fs) = some (crashF (keepAt ks i) g) := by
          unfold crash1
          rw [hg]
          dsimp only
          rw [getK_put, if_pos (show (crashF (keepAt ks i) g).name = n from hn)]
        have := (crashGo_get' (ks := ks) ns (i + 1)).2 _ ha h1
        rw [this] at h'
        injection h' with h'
        subst h'
        exact ha
    · exact crashGo_lasts ns (i + 1) (crash1_mem hs) ((List.mem_cons.1 hm).resolve_left (Ne.symm e)) f h
def SureS (t : Sto) : Prop := ∀ f ∈ t.fs, f.sure ≤ f.data.length
theorem crash_to_lasts {t : Sto} {ks : List Int} (hs : SureS t) (m : ByteArray) : Lasts (t.crash ks) m := by
  cases hg : t.get m with
  | none => intro f hf; rw [crash_none hg] at hf; cases hf
  | some g =>
    have hm : m ∈ t.names := by
      unfold Sto.names
      rw [mem_sortN, ← (getK_mem hg).2]
      exact List.mem_map_of_mem (getK_mem hg).1
    exact fun f hf => crashGo_lasts (ks := ks) t.names 0 hs hm f hf
/-! ### A save -/
theorem used_del {t : Sto} {n : ByteArray} {f : Fil} (hg : t.get n = some f) : usedL (delK Fil.name n t.fs) + f.data.length = t.used := by
  have := (usedL_del (n := n) (fs := t.fs) hg)
  rw [Sto.used_eq]
  omega
inductive Saved (t : Sto) (n : ByteArray) (xs : List UInt8) (r : Int × Sto) : Prop where
  | ok (hr : r.1 = 0) (hd : r.2.down = false) (ha : t.armed = false → r.2.armed = false) (hroom : t.used + xs.length ≤ t.quota + ((t.get tilde).map fun f => f.data.length).getD 0) (hn : r.2.get n = some ⟨n, xs, xs.length⟩) (ht : r.2.get tilde = none) (ho : ∀ m, m ≠ n → m ≠ tilde → r.2.get m = t.get m)
  | falls (hr : r.1 = 8) (ha : t.armed = true) (hd : r.2.down = true) (ho : ∀ m, m ≠ tilde → r.2.get m = t.get m)
  | full (hr : r.1 = 5) (hd : r.2.down = false) (ha : t.armed = false → r.2.armed = false) (hroom : t.quota + ((t.get tilde).map fun f => f.data.length).getD 0 < t.used + xs.length) (ht : r.2.get tilde = none) (ho : ∀ m, m ≠ tilde → r.2.get m = t.get m)
/-- The power goes. -/
structure Fell (t : Sto) (r : Int × Sto) : Prop where
  code : r.1 = 8
  down : r.2.down = true
  armed : t.armed = true
  get : ∀ m, r.2.get m = t.get m
theorem change_fell {t : Sto} (hc : t.change.1 ≠ 0) : Fell t t.change := by
  rcases change_cases t with ⟨c1, c2, c3⟩ | ⟨c1, c2, c3, c4, c5, c6, c7⟩
  · rw [c3]; exact ⟨rfl, rfl, c1, fun _ => rfl⟩
  · exact absurd c2 hc
theorem change_done {t : Sto} (hc : t.change.1 = 0) (hd : t.down = false) : t.change.2.down = false ∧ t.change.2.armed = t.armed ∧ t.change.2.quota = t.quota ∧ t.change.2.fs = t.fs := by
  rcases change_cases t with ⟨c1, c2, c3⟩ | ⟨c1, c2, c3, c4, c5, c6, c7⟩
  · rw [c3] at hc; cases hc
  · exact ⟨c3.trans hd, c4, c5, c6⟩
def tlen (t : Sto) : Nat := ((t.get tilde).map fun f => f.data.length).getD 0
theorem sweep_cases {t : Sto} (hN : NodS t) (hd : t.down = false) :
    (∃ t1, t.sweep = (0, t1) ∧ t1.down = false ∧ NodS t1 ∧ t1.get tilde = none ∧ (∀ m, m ≠ tilde → t1.get m = t.get m) ∧ t1.armed = t.armed ∧ t1.quota = t.quota ∧ t1.used + tlen t = t.used) ∨ Fell t t.sweep := by
  unfold Sto.sweep Sto.delete
  cases hg : t.get tilde with
  | none =>
    rw [onFile_none hd hg]
    exact .inl ⟨t, rfl, hd, hN, hg, fun _ _ => rfl, rfl, rfl, by unfold tlen; rw [hg]; rfl⟩
  | some f =>
    by_cases hc : t.change.1 = 0
    · obtain ⟨c1, c2, c3, c4⟩ := change_done hc hd
      rw [onFile_yes hd hg hc]
      refine .inl ⟨{ t.change.2 with fs := delK Fil.name tilde t.change.2.fs }, rfl, c1, ?_, ?_, fun m hm => ?_, c2, c3, ?_⟩
      · show ((delK Fil.name tilde t.change.2.fs).map Fil.name).Nodup
        rw [c4]
        exact ((delK_sub t.fs).map _).nodup hN
      · show getK Fil.name tilde (delK Fil.name tilde t.change.2.fs) = none
        rw [c4, getK_del hN, if_pos rfl]
      · show getK Fil.name m (delK Fil.name tilde t.change.2.fs) = _
        rw [c4, getK_del hN, if_neg hm]
        rfl
      · show usedL (delK Fil.name tilde t.change.2.fs) + _ = _
        rw [c4]
        have := used_del hg
        unfold tlen
        rw [hg]
        exact this
    · rw [onFile_no hd hg hc]
      have F := change_fell hc
      refine .inr ⟨?_, F.down, F.armed, F.get⟩
      show (if t.change.1 = 4 then 0 else t.change.1) = 8
      rw [F.code]
      rfl
theorem append_cases {t : Sto} (hN : NodS t) (hd : t.down = false) (hg : t.get tilde = none) (xs : List UInt8) :
    (t.quota < t.used + xs.length ∧ t.append tilde xs = (5, t)) ∨
    (t.used + xs.length ≤ t.quota ∧ ∃ t1, t.append tilde xs = (0, t1) ∧ t1.down = false ∧ NodS t1 ∧ t1.get tilde = some ⟨tilde, xs, 0⟩ ∧ (∀ m, m ≠ tilde → t1.get m = t.get m) ∧ t1.armed = t.armed) ∨ (t.used + xs.length ≤ t.quota ∧ Fell t (t.append tilde xs)) := by
  unfold Sto.append
  rw [if_neg (by rw [hd]; decide), if_neg (by decide)]
  by_cases hq : t.quota < t.used + xs.length
  · rw [if_pos hq]; exact .inl ⟨hq, rfl⟩
  · rw [if_neg hq]
    by_cases hc : t.change.1 = 0
    · obtain ⟨c1, c2, c3, c4⟩ := change_done hc hd
      rw [if_pos hc, hg]
      refine .inr (.inl ⟨by omega, _, rfl, c1, ?_, ?_, fun m hm => ?_, c2⟩)
      · show ((putK Fil.name ⟨tilde, xs, 0⟩ t.change.2.fs).map Fil.name).Nodup
        rw [c4, putK_none (show getK Fil.name tilde t.fs = none from hg), List.map_append, List.nodup_append]
        refine ⟨hN, by simp, fun a ha b hb e => ?_⟩
        simp at hb
        obtain ⟨f, hf, rfl⟩ := List.mem_map.1 ha
        exact getK_none.1 hg f hf (e.trans hb)
      · rw [get_put']; exact if_pos rfl
      · rw [get_put', get_change']; exact if_neg (Ne.symm hm)
    · rw [if_neg hc]; exact .inr (.inr ⟨by omega, change_fell hc⟩)
theorem nod_put {t : Sto} {f g : Fil} (hN : NodS t) (hg : t.get f.name = some g) : NodS (t.put f) := by
  show ((putK Fil.name f t.fs).map Fil.name).Nodup
  rw [putK_keys ⟨g, hg⟩]
  exact hN
theorem sync_cases {t : Sto} (hN : NodS t) (hd : t.down = false) {f : Fil} {m0 : ByteArray} (hg : t.get m0 = some f) :
    (∃ t1, t.sync m0 = (0, t1) ∧ t1.down = false ∧ NodS t1 ∧ t1.get m0 = some { f with sure := f.data.length } ∧ (∀ m, m ≠ m0 → t1.get m = t.get m) ∧ t1.armed = t.armed) ∨ Fell t (t.sync m0) := by
  unfold Sto.sync
  have hn : f.name = m0 := (getK_mem hg).2
  by_cases hc : t.change.1 = 0
  · obtain ⟨c1, c2, c3, c4⟩ := change_done hc hd
    rw [onFile_yes hd hg hc]
    refine .inl ⟨_, rfl, c1, nod_put (g := f) (nod_change hN) (by rw [get_change']; show t.get f.name = _; rw [hn]; exact hg), ?_, fun m hm => ?_, c2⟩
    · rw [get_put']; exact if_pos hn
    · rw [get_put', get_change']; exact if_neg (fun e => hm (e.symm.trans hn))
  · rw [onFile_no hd hg hc]; exact .inr (change_fell hc)
theorem rename_cases {t : Sto} (hN : NodS t) (hd : t.down = false) {f : Fil} {m0 n : ByteArray} (hg : t.get m0 = some f) (hn : nameOk n = true) (hne : n ≠ m0) :
    (∃ t1, t.rename m0 n = (0, t1) ∧ t1.down = false ∧ t1.get n = some { f with name := n } ∧ t1.get m0 = none ∧ (∀ m, m ≠ n → m ≠ m0 → t1.get m = t.get m) ∧ t1.armed = t.armed) ∨ Fell t (t.rename m0 n) := by
  unfold Sto.rename
  rw [if_neg (by rw [hn]; simp)]
  by_cases hc : t.change.1 = 0
  · obtain ⟨c1, c2, c3, c4⟩ := change_done hc hd
    rw [onFile_yes hd hg hc]
    have hN' : (t.change.2.fs.map Fil.name).Nodup := nod_change hN
    refine .inl ⟨_, rfl, c1, ?_, ?_, fun m h1 h2 => ?_, c2⟩
    · rw [get_put']; exact if_pos rfl
    · rw [get_put', if_neg hne]
      show getK Fil.name m0 (delK Fil.name m0 t.change.2.fs) = none
      rw [getK_del hN', if_pos rfl]
    · rw [get_put', if_neg (Ne.symm h1), get_del hN' h2, get_change']
  · rw [onFile_no hd hg hc]; exact .inr (change_fell hc)
theorem delete_down {t : Sto} (h : t.down = true) (m : ByteArray) : (t.delete m).2 = t := by unfold Sto.delete; rw [onFile_down h]
theorem delete_none {t : Sto} (hd : t.down = false) {m : ByteArray} (h : t.get m = none) : (t.delete m).2 = t := by unfold Sto.delete; rw [onFile_none hd h]
theorem fin_fell {r : Int × Sto} (h8 : r.1 = 8) (hd : r.2.down = true) : Sto.fin r = r := by
  unfold Sto.fin
  rw [if_pos (by rw [h8]; decide), delete_down hd]
theorem fin_ok {r : Int × Sto} (h : r.1 = 0) : Sto.fin r = r := by unfold Sto.fin; rw [if_neg (by rw [h]; simp)]
theorem save_saved {t : Sto} (hN : NodS t) (hd : t.down = false) {n : ByteArray} (hn : nameOk n = true) (hnt : n ≠ tilde) (xs : List UInt8) : Saved t n xs (t.save n xs) := by
  have hn' : n.size ≠ 0 ∧ n.size ≤ 12 := by simpa [nameOk] using hn
  have e : t.save n xs = t.write n xs := by
    unfold Sto.save
    rw [if_neg (fun e => hn'.1 (by rw [e]; rfl)), if_neg (by omega), if_neg hnt]
  rw [e]
  unfold Sto.write
  rcases sweep_cases hN hd with ⟨t1, a1, a2, a3, a4, a5, a6, a7, a8⟩ | F
  · rcases append_cases a3 a2 a4 xs with ⟨b1, b2⟩ | ⟨b1, t2, b2, b3, b4, b5, b6, b7⟩ | ⟨b1, F⟩
    · have : t.write0 n xs = (5, t1) := by
        unfold Sto.write0
        rw [a1, if_neg (by simp), b2, if_pos (by simp)]
      rw [this]
      have : Sto.fin (5, t1) = (5, t1) := by unfold Sto.fin; rw [if_pos (by simp), delete_none a2 a4]
      rw [this]
      exact .full rfl a2 (fun h => a6.trans h) (show t.quota + tlen t < _ by omega) a4 a5
    · rcases sync_cases b4 b3 b5 with ⟨t3, c1, c2, c3, c4, c5, c6⟩ | F
      · have hw : t.write0 n xs = t3.rename tilde n := by
          unfold Sto.write0
          rw [a1, if_neg (by simp), b2, if_neg (by simp), c1, if_neg (by simp)]
        rw [hw]
        rcases rename_cases c3 c2 c4 hn hnt with ⟨t4, d1, d2, d3, d4, d5, d6⟩ | F
        · rw [d1, fin_ok rfl]
          exact .ok rfl d2 (fun h => d6.trans (c6.trans (b7.trans (a6.trans h)))) (show _ ≤ t.quota + tlen t by omega) d3 d4 (fun m h1 h2 => (d5 m h1 h2).trans ((c5 m h2).trans ((b6 m h2).trans (a5 m h2))))
        · rw [fin_fell F.code F.down]
          exact .falls F.code (a6.symm.trans (b7.symm.trans (c6.symm.trans F.armed))) F.down (fun m h2 => (F.get m).trans ((c5 m h2).trans ((b6 m h2).trans (a5 m h2))))
      · have hw : t.write0 n xs = t2.sync tilde := by
          unfold Sto.write0
          rw [a1, if_neg (by simp), b2, if_neg (by simp), if_pos (show (t2.sync tilde).1 ≠ 0 by rw [F.code]; decide)]
        rw [hw, fin_fell F.code F.down]
        exact .falls F.code (a6.symm.trans (b7.symm.trans F.armed)) F.down (fun m h2 => (F.get m).trans ((b6 m h2).trans (a5 m h2)))
    · have hw : t.write0 n xs = t1.append tilde xs := by
        unfold Sto.write0
        rw [a1, if_neg (by simp), if_pos (show (t1.append tilde xs).1 ≠ 0 by rw [F.code]; decide)]
      rw [hw, fin_fell F.code F.down]
      exact .falls F.code (a6.symm.trans F.armed) F.down (fun m h2 => (F.get m).trans (a5 m h2))
  · have hw : t.write0 n xs = t.sweep := by
      unfold Sto.write0
      rw [if_pos (show t.sweep.1 ≠ 0 by rw [F.code]; decide)]
    rw [hw, fin_fell F.code F.down]
    exact .falls F.code F.armed F.down (fun m _ => F.get m)
end Go.Abs.TC
namespace Go.Abs.TC
open Go Go.Abs Go.Proofs

theorem write0_all (t : Sto) (hl : LeftOkS t) (n : ByteArray) (xs : List UInt8) : LeftOkS (t.write0 n xs).2 ∧ (t.write0 n xs).2.size ≤ t.size + xs.length + 4 ∧ (t.write0 n xs).2.quota = t.quota := by
  have D1 := delete_done t tilde
  have l1 : LeftOkS t.sweep.2 := D1.left hl
  have s1 : t.sweep.2.size ≤ t.size + 0 + 1 := D1.size
  have q1 : t.sweep.2.quota = t.quota := D1.quota
  have D2 := append_done t.sweep.2 tilde xs
  have l2 := D2.left l1
  have s2 := D2.size
  have q2 := D2.quota
  have D3 := sync_done (t.sweep.2.append tilde xs).2 tilde 0
  have l3 := D3.left l2
  have s3 := D3.size
  have q3 := D3.quota
  have D4 := rename_done ((t.sweep.2.append tilde xs).2.sync tilde).2 tilde n
  have l4 := D4.left l3
  have s4 := D4.size
  have q4 := D4.quota
  unfold Sto.write0
  split
  · exact ⟨l1, by omega, q1⟩
  split
  · exact ⟨l2, by omega, q2.trans q1⟩
  split
  · exact ⟨l3, by omega, q3.trans (q2.trans q1)⟩
  exact ⟨l4, by omega, q4.trans (q3.trans (q2.trans q1))⟩
theorem save_all (t : Sto) (hl : LeftOkS t) (n : ByteArray) (xs : List UInt8) : LeftOkS (t.save n xs).2 ∧ (t.save n xs).2.size ≤ t.size + xs.length + 5 ∧ (t.save n xs).2.quota = t.quota := by
  obtain ⟨l, s, q⟩ := write0_all t hl n xs
  unfold Sto.save
  split
  · exact ⟨hl, by dsimp only; omega, rfl⟩
  split
  · exact ⟨hl, by dsimp only; omega, rfl⟩
  split
  · exact ⟨hl, by dsimp only; omega, rfl⟩
  unfold Sto.write Sto.fin
  split
  · have D := delete_done (t.write0 n xs).2 tilde
    have := D.size
    exact ⟨D.left l, by dsimp only; omega, D.quota.trans q⟩
  · exact ⟨l, by omega, q⟩
section
variable {σ0 σ σ' : Heap} {d d' : SD} {n : Nat}
theorem Run.save (h : Run σ0 σ d n) (hn : n ≤ 800000) (nm : ByteArray) {b : Sl} {xs : List UInt8} (hX : b.Is eU8 σ xs) (hXo : ∀ c, b.b = some c → c ∉ d.foot) (hl : xs.length ≤ 900) :
    ∃ σ' d', w_shelf_Save (some (d.s, 0)) nm b σ = some ((d.sto.save nm xs).1, σ') ∧ Run σ0 σ' d' (n + xs.length + 5) ∧ d'.sto = (d.sto.save nm xs).2 ∧ d'.s = d.s ∧ Fr σ d σ' d' := by
  obtain ⟨σ', d', r1, r2, r3, r4⟩ := w_shelf_Save_ex h hn nm hX hXo hl
  obtain ⟨a1, a2, _⟩ := save_all d.sto h.left nm xs
  have := h.size
  exact ⟨σ', d', r1, ⟨r2, by rw [r4]; exact a1, by rw [r4]; omega, h.ro.trans (ro_fr r3 h.st)⟩, r4, r3.s, r3⟩
theorem Run.crashN (h : Run σ0 σ d n) {keep : Sl} {ks : List Int} (hK : keep.Is eI64 σ ks) (hKo : ∀ c, keep.b = some c → c ∉ d.foot) :
    ∃ σ' d', w_file_Store_Crash (some (d.s, 0)) keep σ = some ((), σ') ∧ Run σ0 σ' d' n ∧ d'.sto = d.sto.crash ks ∧ d'.s = d.s ∧ Fr σ d σ' d' := by
  obtain ⟨σ', d', r1, r2, r3, r4⟩ := w_file_Store_Crash_ex h.st hK hKo
  exact ⟨σ', d', r1, ⟨r2, by rw [r4]; exact fun h => (by cases h), by rw [r4]; exact Nat.le_trans (crash_size _ _) h.size, h.ro.trans (ro_fr r3 h.st)⟩, r4, r3.s, r3⟩
/-- A crash, told by a new row of numbers. -/
theorem Run.crashL (h : Run σ0 σ d n) (ks : List Int) (hks : ks.length ≤ 100) :
    ∃ σ' d', w_file_Store_Crash (some (d.s, 0)) ⟨some σ.length, 0, ks.length⟩ (σ ++ [.row (ks.map fun k => AVal.int .i64 k) .rw]) = some ((), σ') ∧ Run σ0 σ' d' n ∧ d'.sto = d.sto.crash ks ∧ d'.s = d.s ∧ Fr σ d σ' d' := by
  have hp := pre_push σ (.row (ks.map fun k => AVal.int .i64 k) .rw)
  have hall : eI64.all ks = ks.map fun k => AVal.int .i64 k := by
    induction ks with
    | nil => rfl
    | cons k ks ih =>
      show AVal.int .i64 k :: eI64.all ks = _
      rw [ih (by simp at hks; omega) (pre_push ..)]
      rfl
  have hK : Sl.Is ⟨some σ.length, 0, ks.length⟩ eI64 (σ ++ [.row (ks.map fun k => AVal.int .i64 k) .rw]) ks := (Sl.Own.row (E := eI64) (xs := ks) σ.length rfl rfl rfl (by rw [hall]; exact get_push ..)).is (by omega)
  obtain ⟨σ', d', r1, r2, r3, r4, r5⟩ := (h.pre hp).crashN hK (fun c hc hm => by injection hc with hc; have := h.st.foot_lt hm; omega)
  have hl := hp.length_le
  exact ⟨σ', d', r1, r2, r3, r4, ⟨Nat.le_trans hl r5.len, fun b hb hm => (r5.at_ b (by omega) hm).trans (get_pre hp hb), fun b hb => (r5.foot b hb).imp id fun h => Nat.le_trans hl h, r4⟩⟩
theorem Run.nod (h : Run σ0 σ d n) : NodS d.sto := by
  show ((d.fs.map FD.fil).map Fil.name).Nodup
  rw [List.map_map]
  exact h.st.names
theorem Run.sures (h : Run σ0 σ d n) : SureS d.sto := fun f hf => by
  obtain ⟨g, hg, rfl⟩ := List.mem_map.1 hf
  exact (h.st.file g hg).sure
end
def nameF : ByteArray := ⟨#[102]⟩
theorem nameF_ok : nameOk nameF = true := by decide
theorem nameF_ne : nameF ≠ tilde := by decide
/-- What is told of a file. -/
def oneOf : Option Fil → law19_One
  | some f => ⟨⟨f.data.toArray⟩, (f.sure : Int), true⟩
  | none => ⟨⟨#[]⟩, 0, false⟩
theorem getT_eq {t : Sto} (hd : t.down = false) (m : ByteArray) : getT t m = oneOf (t.get m) := by
  unfold getT readS
  rw [if_neg (by rw [hd]; decide)]
  cases t.get m <;> rfl
theorem bytes_beq' (xs ys : List UInt8) : ((⟨xs.toArray⟩ : ByteArray).toList == (⟨ys.toArray⟩ : ByteArray).toList) = decide (xs = ys) := by
  rw [ba_beq, decide_eq_decide]
  constructor
  · intro h
    injection h with h
    exact congrArg Array.toList h
  · intro h
    rw [h]
/-- A store with room for it, and no fuse. -/
theorem save_room {t : Sto} (hN : NodS t) (hd : t.down = false) (ha : t.armed = false) {n : ByteArray} (hn : nameOk n = true) (hnt : n ≠ tilde) {xs : List UInt8} (hq : t.used + xs.length ≤ t.quota) :
    (t.save n xs).1 = 0 ∧ (t.save n xs).2.down = false ∧ (t.save n xs).2.armed = false ∧ (t.save n xs).2.get n = some ⟨n, xs, xs.length⟩ := by
  cases save_saved hN hd hn hnt xs with
  | ok hr hd' ha' hroom hn' ht ho => exact ⟨hr, hd', ha' ha, hn'⟩
  | falls hr ha' _ _ => rw [ha] at ha'; cases ha'
  | full hr hd' ha' hroom ht ho => omega
end Go.Abs.TC
