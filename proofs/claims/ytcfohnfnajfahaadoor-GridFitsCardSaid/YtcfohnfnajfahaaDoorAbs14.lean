/-
Each operation: conversions, ranges over texts.
-/
import Derived.Test.YtcfohnfnajfahaaDoorAbs13
namespace Go.Abs
open Go

theorem bytesOf_some : ∀ {cs : List AVal} {bs : List UInt8}, bytesOf cs = some bs → ∃ xs : List Int, cs = xs.map (.int .u8) ∧ bs = xs.map (fun n => UInt8.ofNat n.toNat)
  | [], bs, h => by simp only [bytesOf, Option.some.injEq] at h; subst h; exact ⟨[], rfl, rfl⟩
  | c :: cs, bs, h => by
    unfold bytesOf at h
    split at h
    · rename_i heq; cases heq
    · rename_i n r heq
      injection heq with e1 e2
      subst e1; subst e2
      obtain ⟨l, hl, rfl⟩ := Option.map_eq_some_iff.1 h
      obtain ⟨xs, rfl, rfl⟩ := bytesOf_some hl
      exact ⟨n :: xs, rfl, rfl⟩
    · cases h
theorem runesIn_some : ∀ {cs : List AVal} {rs : List Int}, runesIn cs = some rs → cs = rs.map (.int .i32)
  | [], bs, h => by simp only [runesIn, Option.some.injEq] at h; subst h; rfl
  | c :: cs, bs, h => by
    unfold runesIn at h
    split at h
    · rename_i heq; cases heq
    · rename_i n r heq
      injection heq with e1 e2
      subst e1; subst e2
      obtain ⟨l, hl, rfl⟩ := Option.map_eq_some_iff.1 h
      rw [runesIn_some hl]
      rfl
    · cases h

theorem runesFrom_runesA (s : ByteArray) : ∀ (n i : Nat) (acc : Array Value), Conv.runesFrom s n i acc = acc ++ ((runesA s n i).map (Value.int .i32)).toArray
  | 0, _, acc => by simp [Conv.runesFrom, runesA]
  | n + 1, i, acc => by
    unfold Conv.runesFrom runesA
    split
    · simp only []
      rw [runesFrom_runesA s n]
      simp
    · simp
theorem runesA_length (s : ByteArray) : ∀ (n i : Nat), (runesA s n i).length ≤ n
  | 0, _ => by simp [runesA]
  | n + 1, i => by
    unfold runesA
    split
    · have := runesA_length s n (i + (Utf8.decode s i).2); simp; omega
    · simp

section
variable {P : Program} {T : Tab} {R : Type} {o : Oper} {e : Env} {l : Locs} {σ : Heap} {k : AVal → Locs → Heap → Option R} {r : R}

/-- A row of numbers, on both sides. -/
theorem nums_rel {ρ : Mp} {lm : Lp} {w : World} (hH : HRel ρ σ w) {kd : IntKind} {b : Option Nat} {o' n z : Nat} {xs : List Int} (h : σ.read b o' n 1 = some (xs.map (.int kd))) {v : Value} (hv : VRel ρ lm (.slice b o' n z) v) :
    (b = none ∧ xs = [] ∧ v = .slice none 0 0) ∨ ∃ a cap, v = .slice (some a) n cap ∧ xs.length = n ∧ (n = 0 ∨ a.spot = none) ∧ ∀ i, i < n → w.cell? ⟨a.block, a.off + i, none⟩ = some (.int kd (xs.getD i 0)) := by
  unfold Heap.read at h
  cases b with
  | none =>
    left
    simp only [Option.some.injEq] at h
    simp only [VRel] at hv
    obtain ⟨_, rfl, rfl⟩ := hv
    exact ⟨rfl, by cases xs with | nil => rfl | cons a b => simp at h, rfl⟩
  | some b =>
    right
    obtain ⟨cs', h1, h2⟩ := Option.bind_eq_some_iff.1 h
    split at h2
    · rename_i hl
      injection h2 with h2
      obtain ⟨pl, a, cap, hp, rfl, h4, h5, h6⟩ := by simpa only [VRel] using hv
      obtain ⟨c, ty, fr, g1, g2, g3, g4, g6⟩ := row_rel hH hp h1
      have hlen : xs.length = n := by
        have := congrArg List.length h2
        simp at this
        omega
      refine ⟨a, cap, rfl, hlen, ?_, fun i hi => ?_⟩
      · rcases h6 with h6 | ⟨rfl, _⟩
        · left; omega
        · right; rfl
      · rcases h6 with h6 | ⟨rfl, _⟩
        · omega
        · have hml : o' + i < cs'.length := by omega
          obtain ⟨u, e1, r1⟩ := g4 (o' + i) cs'[o' + i] (by simp [hml])
          have hx : cs'[o' + i] = .int kd (xs.getD i 0) := by
            have := congrArg (fun q : List AVal => q[i]?) h2
            simp only [List.getElem?_map] at this
            rw [List.getElem?_take, if_pos (by omega), List.getElem?_drop, List.getElem?_eq_getElem hml, List.getElem?_eq_getElem (by omega)] at this
            simp only [Option.map_some, Option.some.injEq] at this
            rw [this]
            simp [List.getD, List.getElem?_eq_getElem (show i < xs.length by omega)]
          rw [hx] at r1
          simp only [VRel] at r1
          subst r1
          simp only [World.cell?, g1, Nat.add_assoc]
          exact e1
    · cases h2

theorem bytesWorld_heap (w : World) (t : TypeId) (s : ByteArray) : (Lib.bytesWorld w t s).heap = w.heap.push (.cells (Lib.bytesCells w t s) t ((Lib.bytesCells w t s).size, (Lib.bytesCells w t s).size + 1)) := by
  apply Array.ext_getElem?
  intro j
  rcases Nat.lt_trichotomy j w.heap.size with h | h | h
  · rw [Lib.bytesWorld_at_old w t s j h, Array.getElem?_push, if_neg (by omega)]
  · subst h
    rw [Lib.bytesWorld_at_new, Array.getElem?_push, if_pos rfl]
  · rw [Array.getElem?_eq_none (by rw [Lib.bytesWorld_size]; omega), Array.getElem?_eq_none (by simp; omega)]

theorem run_runes_any (w : World) (src dst t : TypeId) (s : ByteArray) {u : TypeDesc} (hs : P.underlying src = some u) (hd : P.underlying dst = some (.slice t)) (he : P.underlying t = some (.int .i32)) :
    (convert src dst (.string s)).run P w = .ok (.slice (some ⟨w.heap.size, 0, none⟩) (Conv.runesFrom s s.size 0 #[]).size (grownCap w (Conv.runesFrom s s.size 0 #[]).size 0 t))
      (w.drew.alloc (.cells (Conv.runesFrom s s.size 0 #[] ++ Array.replicate (grownCap w (Conv.runesFrom s s.size 0 #[]).size 0 t - (Conv.runesFrom s s.size 0 #[]).size) (.int .i32 0)) t)) := by
  simp [convert, run_underlying hs, run_underlying hd, run_underlying he, Conv.stringToRunes, Question.forced, newRow, grownCap]

theorem run_getObj_iter {w : World} {r : Nat} {s : ByteArray} {p : Nat} (h : w.heap[r]? = some (.stringIter s p)) : (getObj r).run P w = .ok (.stringIter s p) w := by simp [getObj, Sem.run, h]
theorem run_setObj_iter {w : World} {r : Nat} {s : ByteArray} {p : Nat} (h : w.heap[r]? = some (.stringIter s p)) (x : Obj) : (setObj r x).run P w = .ok () { w with heap := w.heap.setIfInBounds r x } := by simp [setObj, Sem.run, h]

theorem snd_convert (ok : TabOK P T) {src dst : TypeId} {x : Operand} (hop : o.op = .convert src dst x)
    (h : ((T.ti src).bind fun si => (T.ti dst).bind fun di => convC T si di (ev T e x) l σ k) = some r) : Snd P T o e l σ k r := by
  rw [Option.bind_eq_some_iff] at h
  obtain ⟨si, hsi, h⟩ := h
  rw [Option.bind_eq_some_iff] at h
  obtain ⟨di, hdi, h⟩ := h
  obtain ⟨inf, d, z, ti⟩ := ok.tis hsi
  obtain ⟨inf', d', z', ti'⟩ := ok.tis hdi
  have exec : ∀ (A : Act) (w : World), (execOp A.eval o).run P w = ((convert src dst (A.eval x)).run P w).andThen fun v w => .ok (.value v) w := fun A w => by
    simp only [execOp, hop, Sem.run_bind]
    congr
  unfold convC at h
  split at h
  · -- a number to a number
    rename_i kd kd' n ha hs hx
    obtain rfl := ti'.int hs ha
    refine ⟨_, _, _, h, .pure fun ρ lm A w _ _ ho => ⟨.int kd (kd.wrap n), ?_, by simp [VRel]⟩⟩
    have h1 := ho x (by simp [hop, Op.operands])
    rw [hx] at h1
    simp only [VRel] at h1
    have hk : P.intKind dst = kd := by simp [Program.intKind, ti'.und]
    have := run_convert_int (P := P) w src dst kd' n (by rw [ti.und]; rfl) (by rw [ti'.und, hk])
    rw [hk] at this
    rw [exec, h1, this]
    rfl
  · rename_i kd' n ha hs hx
    obtain rfl := ti'.str hs ha
    refine ⟨_, _, _, h, .pure fun ρ lm A w _ _ ho => ⟨.string (Utf8.encode n), ?_, by simp [VRel]⟩⟩
    have h1 := ho x (by simp [hop, Op.operands])
    rw [hx] at h1
    simp only [VRel] at h1
    rw [exec, h1, run_convert_int_string (P := P) w src dst kd' n (by rw [ti.und]; rfl) ti'.und]
    rfl
  · rename_i s ha hs hx
    obtain rfl := ti'.str hs ha
    refine ⟨_, _, _, h, .pure fun ρ lm A w _ _ ho => ⟨.string s, ?_, by simp [VRel]⟩⟩
    have h1 := ho x (by simp [hop, Op.operands])
    rw [hx] at h1
    simp only [VRel] at h1
    rw [exec, h1]
    simp [convert, run_underlying ti.und, run_underlying ti'.und]
  · rename_i b o' n z0 ha hs hx
    obtain rfl := ti'.str hs ha
    split at h
    · rename_i et hk
      obtain ⟨rfl, _, _⟩ := ti.slice hk
      rw [Option.bind_eq_some_iff] at h
      obtain ⟨ie, hie, h⟩ := h
      obtain ⟨inf2, d2, z2, ti2⟩ := ok.tis hie
      split at h
      · rename_i ha2 hs2
        obtain rfl := ti2.int hs2 ha2
        rw [Option.bind_eq_some_iff] at h
        obtain ⟨cs, hcs, h⟩ := h
        rw [Option.bind_eq_some_iff] at h
        obtain ⟨bs, hbs, h⟩ := h
        obtain ⟨xs, rfl, rfl⟩ := bytesOf_some hbs
        refine ⟨_, _, _, h, .pure fun ρ lm A w hH _ ho => ⟨.string (strOfNums xs), ?_, by simp only [VRel]; rfl⟩⟩
        have h1 := ho x (by simp [hop, Op.operands])
        rw [hx] at h1
        rw [exec]
        rcases nums_rel hH hcs h1 with ⟨_, rfl, h2⟩ | ⟨a, cap, h2, hl, hsp, hc⟩
        · rw [h2, run_convert_bytes_nil w src et ti.und ti2.und 0 0 dst ti'.und]
          rfl
        · rcases Nat.eq_zero_or_pos n with h0 | h0
          · subst h0
            obtain rfl : xs = [] := List.eq_nil_of_length_eq_zero hl
            rw [h2, run_convert_bytes_string w src dst et _ 0 cap ti.und ti2.und ti'.und, run_bytesToString w _ 0 cap [] (by simp [loadCells, loadCellsFrom])]
            rfl
          · obtain ⟨ab, ao, as⟩ := a
            obtain rfl : as = none := hsp.resolve_left (by omega)
            rw [h2, run_convert_bytes_arg w src et ti.und ti2.und ab ao n cap xs hl hc dst ti'.und]
            rfl
      · rename_i ha2 hs2
        obtain rfl := ti2.int hs2 ha2
        rw [Option.bind_eq_some_iff] at h
        obtain ⟨cs, hcs, h⟩ := h
        rw [Option.bind_eq_some_iff] at h
        obtain ⟨rs, hrs, h⟩ := h
        obtain rfl := runesIn_some hrs
        refine ⟨_, _, _, h, .pure fun ρ lm A w hH _ ho => ⟨.string (encodeAll rs), ?_, by simp only [VRel]⟩⟩
        have h1 := ho x (by simp [hop, Op.operands])
        rw [hx] at h1
        rw [exec]
        rcases nums_rel hH hcs h1 with ⟨_, rfl, h2⟩ | ⟨a, cap, h2, hl, hsp, hc⟩
        · rw [h2, run_convert_runes_nil w src dst et 0 0 ti.und ti2.und ti'.und]
          rfl
        · rcases Nat.eq_zero_or_pos n with h0 | h0
          · subst h0
            obtain rfl : rs = [] := List.eq_nil_of_length_eq_zero hl
            rw [h2, run_convert_runes_string w src dst et _ 0 cap ti.und ti2.und ti'.und, run_runesToString w _ 0 cap [] (by simp [loadCells, loadCellsFrom])]
            rfl
          · obtain ⟨ab, ao, as⟩ := a
            obtain rfl : as = none := hsp.resolve_left (by omega)
            rw [h2, run_convert_runes w src dst et ⟨ab, ao, none⟩ n cap rs (by omega) ti.und ti2.und ti'.und (fun j hj => by
              have hplain : (⟨ab, ao, none⟩ : Addr).add j = ⟨ab, ao + j, none⟩ := by unfold Addr.add; split <;> simp_all
              rw [hplain, hc j (by omega)])]
            rw [List.take_of_length_le (by omega)]
            rfl
      · cases h
    · cases h
  · rename_i z0 s ha hs hx
    split at h
    · rename_i et hk
      obtain ⟨rfl, _, _⟩ := ti'.slice hk
      rw [Option.bind_eq_some_iff] at h
      obtain ⟨ie, hie, h⟩ := h
      obtain ⟨inf2, d2, z2, ti2⟩ := ok.tis hie
      split at h
      · rename_i ha2 hs2
        obtain rfl := ti2.int hs2 ha2
        split at h
        · rename_i hsz
          simp only [decide_eq_true_eq] at hsz
          refine ⟨_, _, _, h, .of_run fun ρ lm A w hH hL ho => ?_⟩
          have h1 := ho x (by simp [hop, Op.operands])
          rw [hx] at h1
          simp only [VRel] at h1
          have c1 := grownCap_ge w s.size 0 et
          have c2 : grownCap w s.size 0 et ≤ 9223372036854775807 := (choose_cap w s.size 0 et hsz).2
          have hcs : (Lib.bytesCells w et s).size = grownCap w s.size 0 et := by
            simp [Lib.bytesCells]
            omega
          obtain ⟨q1, q2, q3⟩ := new_block (w' := Lib.bytesWorld w et s) hH hL _ (.row (s.data.toList.map fun b => .int .u8 b.toNat) .rw) (Lib.bytesCells w et s).size rfl rfl rfl (bytesWorld_heap w et s)
            ⟨_, _, _, Lib.bytesWorld_at_new w et s, rfl, by simp [Lib.bytesCells], fun j y hy => by
              rw [List.getElem?_map] at hy
              obtain ⟨b, hb, rfl⟩ := Option.map_eq_some_iff.1 hy
              have hj := (List.getElem?_eq_some_iff.1 hb).1
              refine ⟨.int .u8 b.toNat, ?_, by simp [VRel]⟩
              simp only [Lib.bytesCells, Nat.zero_add]
              rw [Array.getElem?_append_left (by simpa using hj)]
              simp at hb
              simp [hb], fun _ j hj hf => by simp only [] at hf; omega, fun v hv => by
              simp only [Lib.bytesCells, Array.toList_append, List.mem_append, Array.toList_map, List.mem_map, Array.toList_replicate, List.mem_replicate] at hv
              rcases hv with ⟨_, _, rfl⟩ | ⟨_, rfl⟩ <;> rfl⟩ rfl
          refine ⟨_, .slice (some ⟨w.heap.size, 0, none⟩) s.size (grownCap w s.size 0 et), _, _, lm, ?_, .inl rfl, q1, q2, ?_, q3, LExt.refl ..⟩
          · rw [exec, h1, Lib.run_convert_string_bytes (P := P) w src dst et s ti.und ti'.und ti2.und]
            rfl
          · simp only [VRel]
            exact ⟨_, _, _, upd_same _ _ _, rfl, c1, c2, .inr ⟨rfl, by rw [hcs]; simp⟩⟩
        · cases h
      · rename_i ha2 hs2
        obtain rfl := ti2.int hs2 ha2
        split at h
        · rename_i hsz
          simp only [decide_eq_true_eq] at hsz
          refine ⟨_, _, _, h, .of_run fun ρ lm A w hH hL ho => ?_⟩
          have h1 := ho x (by simp [hop, Op.operands])
          rw [hx] at h1
          simp only [VRel] at h1
          have hrl := runesA_length s s.size 0
          have hrf := runesFrom_runesA s s.size 0 #[]
          simp only [Array.empty_append] at hrf
          have hrs : (Conv.runesFrom s s.size 0 #[]).size = (runesA s s.size 0).length := by rw [hrf]; simp
          have run := run_runes_any (P := P) w src dst et s ti.und ti'.und ti2.und
          rw [hrs] at run
          have c1 := grownCap_ge w (runesA s s.size 0).length 0 et
          have c2 : grownCap w (runesA s s.size 0).length 0 et ≤ 9223372036854775807 := (choose_cap w (runesA s s.size 0).length 0 et (by omega)).2
          rw [hrf] at run
          have hrel : ∀ xs : List Int, VRels ρ noL (xs.map fun n => AVal.int .i32 n) (xs.map (Value.int .i32)) := fun xs => by
            induction xs with
            | nil => simp [VRels]
            | cons a as ih => simp only [List.map_cons, VRels]; exact ⟨_, _, rfl, by simp [VRel], ih⟩
          obtain ⟨q1, q2, q3⟩ := new_row (drew_rel hH) (drew_lrel hL) ((runesA s s.size 0).map fun n => .int .i32 n) (((runesA s s.size 0).map (Value.int .i32)).toArray ++ Array.replicate (grownCap w (runesA s s.size 0).length 0 et - (runesA s s.size 0).length) (.int .i32 0)) et (by
            simp only [Array.toList_append]
            rw [List.take_left' (by simp)]
            exact hrel _) (by simp) (by
            intro v hv
            simp only [Array.toList_append, List.mem_append, List.mem_map, Array.toList_replicate, List.mem_replicate] at hv
            rcases hv with ⟨_, _, rfl⟩ | ⟨_, rfl⟩ <;> rfl)
          refine ⟨_, .slice (some ⟨w.heap.size, 0, none⟩) (runesA s s.size 0).length (grownCap w (runesA s s.size 0).length 0 et), _, _, lm, ?_, .inl rfl, q1, q2, ?_, (drew_step ρ lm l σ w).trans q3, LExt.refl ..⟩
          · rw [exec, h1, run]
            rfl
          · simp only [VRel]
            refine ⟨_, _, _, upd_same _ _ _, rfl, c1, c2, .inr ⟨rfl, ?_⟩⟩
            simp
            omega
        · cases h
      · cases h
    · cases h
  · cases h

theorem snd_range (ok : TabOK P T) {t : TypeId} {x : Operand} (hop : o.op = .range t x) (h : ((T.ti t).bind fun i => match i.agg, i.shape, ev T e x with
      | false, [.str], .str s => match o.dst with
        | some d => match l[d]? with
          | some .none => k (.lptr d 0) (l.set d (.iter s 0)) σ
          | _ => none
        | none => none
      | _, _, _ => none) = some r) : Snd P T o e l σ k r := by
  rw [Option.bind_eq_some_iff] at h
  obtain ⟨i, hi, h⟩ := h
  obtain ⟨inf, d', z, ti⟩ := ok.tis hi
  split at h
  · rename_i s ha hs hx
    obtain rfl := ti.str hs ha
    split at h
    · rename_i d hd
      split at h
      · rename_i hl
        refine ⟨_, _, _, h, .of_run fun ρ lm A w hH hL ho => ?_⟩
        have h1 := ho x (by simp [hop, Op.operands])
        rw [hx] at h1
        simp only [VRel] at h1
        have hn : lm d = none := by
          cases h : lm d with
          | none => rfl
          | some k' =>
            have := (hL.loc d k' h).2
            simp [List.getD, hl, LOne] at this
        obtain ⟨q1, q2, q3⟩ := new_local (w' := w.alloc (.stringIter s 0)) hH hL (.stringIter s 0) (.iter s 0) d hn (List.getElem?_eq_some_iff.1 hl).1 rfl rfl rfl rfl (by
          simp only [LOne]; exact alloc_get w _)
        refine ⟨_, .pointer (some ⟨w.heap.size, 0, none⟩), _, ρ, _, ?_, .inl rfl, q1, q2, ?_, q3, ?_⟩
        · simp only [execOp, hop, h1, Instr.range, Sem.run_bind, ti.run_underlying, Result.andThen_ok, Sem.run_pure, run_newObj]
          rfl
        · simp only [VRel]
          exact ⟨_, upd_same _ _ _, rfl⟩
        · refine ⟨upd_ext _ hn, fun t k h0 h1 => ?_⟩
          by_cases e : t = d
          · subst e; rw [upd_same] at h1; injection h1 with h1; exact ⟨hd, hl, by omega⟩
          · rw [upd_ne _ _ e, h0] at h1; cases h1
      · cases h
    · cases h
  · cases h

theorem snd_next {f : FuncId} {isS : Bool} {x : Operand} (hop : o.op = .next x isS) (h : opC T f o.dst o.type (.next x isS) e l σ k = some r) : Snd P T o e l σ k r := by
  simp only [opC] at h
  split at h
  · rename_i t hx
    split at h
    · rename_i s pos hl
      by_cases hp : pos < s.size
      · simp only [hp, decide_true, cond_true] at h
        refine ⟨_, _, _, h, .of_run fun ρ lm A w hH hL ho => ?_⟩
        have h1 := ho x (by simp [hop, Op.operands])
        rw [hx] at h1
        simp only [VRel] at h1
        obtain ⟨k', hk', h1⟩ := h1
        obtain ⟨g1, g2⟩ := hL.loc t k' hk'
        simp only [List.getD, hl, Option.getD_some, LOne] at g2
        obtain ⟨q1, q2, q3⟩ := turn_local (w' := { w with heap := w.heap.setIfInBounds k' (.stringIter s (pos + (Utf8.decode s pos).2)) }) hH hL t k' (.iter s (pos + (Utf8.decode s pos).2)) hk' (List.getElem?_eq_some_iff.1 hl).1 (by simp [List.getD, hl, LBlk.isRO])
          (by simp [LOne, g1]) rfl rfl rfl (by simp) (fun i hi => by simp [Ne.symm hi])
        refine ⟨_, .tuple #[.bool true, goInt pos, .int .i32 (Utf8.decode s pos).1], _, ρ, lm, ?_, .inl rfl, q1, q2, ?_, q3, LExt.refl ..⟩
        · rw [execOp.eq_def]
          simp [hop, h1, Instr.next, run_getObj_iter g2, run_setObj_iter g2, hp]
        · simp only [VRel, VRels]
          exact ⟨_, rfl, _, _, rfl, rfl, _, _, rfl, rfl, _, _, rfl, rfl, rfl⟩
      · simp only [hp, decide_false, cond_false] at h
        refine ⟨_, _, _, h, .pure fun ρ lm A w hH hL ho => ⟨.tuple #[.bool false], ?_, ?_⟩⟩
        · have h1 := ho x (by simp [hop, Op.operands])
          rw [hx] at h1
          simp only [VRel] at h1
          obtain ⟨k', hk', h1⟩ := h1
          obtain ⟨g1, g2⟩ := hL.loc t k' hk'
          simp only [List.getD, hl, Option.getD_some, LOne] at g2
          simp [execOp, hop, h1, Instr.next, run_getObj_iter g2, hp]
        · simp only [VRel, VRels]
          exact ⟨_, rfl, _, _, rfl, rfl, rfl⟩
    · cases h
  · cases h
end
end Go.Abs
