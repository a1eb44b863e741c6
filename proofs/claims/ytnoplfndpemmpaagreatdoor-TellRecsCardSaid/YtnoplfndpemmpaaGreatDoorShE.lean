/-
Contracts of the library, laid at this program (printed by the kit: lay-plain).
-/
import Derived.Shelf.SlIterI.Nil
import Derived.Shelf.SortM.Plain
import Derived.Shelf.SortM.SortNone
import Derived.Ground.GgzProg
import Derived.Ground.SlgmProg
import Derived.Test.YtnoplfndpemmpaaGreatDoorProg
namespace Go.Proofs
open Go.Shelf
def Tryz.keys67_ren : Go.Shelf.Ren := ⟨fun | 7 => 67 | 10 => 107 | n => n, fun | 23 => 105 | 26 => 3 | 3 => 163 | 28 => 175 | 0 => 0 | 27 => 174 | 33 => 207 | 4 => 4 | n => n, fun | n => n⟩
theorem Tryz.keys67 : Go.Proofs.SlLaysZI.n7 Tryz.prog Tryz.keys67_ren := {
  mixed := by kernel_rfl
  f7 := ⟨Tryz.f67.name, by decide, Tryz.func67.trans (congrArg some (by kernel_rfl))⟩
  f10 := ⟨Tryz.f107.name, by decide, Tryz.func107.trans (congrArg some (by kernel_rfl))⟩
  t0 := Tryz.underlying0
  a0 := Tryz.isAgg0
  z0 := Tryz.sizeOf0
  v0 := Tryz.zeroValue0
  t4 := Tryz.underlying4
  a4 := Tryz.isAgg4
  z4 := Tryz.sizeOf4
  v4 := Tryz.zeroValue4
  t23 := Tryz.underlying105
  a23 := Tryz.isAgg105
  z23 := Tryz.sizeOf105
  v23 := Tryz.zeroValue105
  t26 := Tryz.underlying3
  a26 := Tryz.isAgg3
  z26 := Tryz.sizeOf3
  v26 := Tryz.zeroValue3
  t27 := Tryz.underlying174
  a27 := Tryz.isAgg174
  z27 := Tryz.sizeOf174
  v27 := Tryz.zeroValue174
  t28 := Tryz.underlying175
  a28 := Tryz.isAgg175
  z28 := Tryz.sizeOf175
  v28 := Tryz.zeroValue175
  t33 := Tryz.underlying207
  a33 := Tryz.isAgg207
  z33 := Tryz.sizeOf207
  v33 := Tryz.zeroValue207 }
def Tryz.keys118_ren : Go.Shelf.Ren := ⟨fun | 7 => 118 | 10 => 176 | n => n, fun | 23 => 106 | 26 => 3 | 3 => 211 | 28 => 175 | 0 => 0 | 27 => 174 | 33 => 207 | 4 => 4 | n => n, fun | n => n⟩
theorem Tryz.keys118 : Go.Proofs.SlLaysZI.n7 Tryz.prog Tryz.keys118_ren := {
  mixed := by kernel_rfl
  f7 := ⟨Tryz.f118.name, by decide, Tryz.func118.trans (congrArg some (by kernel_rfl))⟩
  f10 := ⟨Tryz.f176.name, by decide, Tryz.func176.trans (congrArg some (by kernel_rfl))⟩
  t0 := Tryz.underlying0
  a0 := Tryz.isAgg0
  z0 := Tryz.sizeOf0
  v0 := Tryz.zeroValue0
  t4 := Tryz.underlying4
  a4 := Tryz.isAgg4
  z4 := Tryz.sizeOf4
  v4 := Tryz.zeroValue4
  t23 := Tryz.underlying106
  a23 := Tryz.isAgg106
  z23 := Tryz.sizeOf106
  v23 := Tryz.zeroValue106
  t26 := Tryz.underlying3
  a26 := Tryz.isAgg3
  z26 := Tryz.sizeOf3
  v26 := Tryz.zeroValue3
  t27 := Tryz.underlying174
  a27 := Tryz.isAgg174
  z27 := Tryz.sizeOf174
  v27 := Tryz.zeroValue174
  t28 := Tryz.underlying175
  a28 := Tryz.isAgg175
  z28 := Tryz.sizeOf175
  v28 := Tryz.zeroValue175
  t33 := Tryz.underlying207
  a33 := Tryz.isAgg207
  z33 := Tryz.sizeOf207
  v33 := Tryz.zeroValue207 }
def Tryz.sorted66_ren : Go.Shelf.Ren := ⟨fun | 6 => 66 | 8 => 105 | 9 => 106 | 11 => 149 | 13 => 151 | 12 => 150 | 23 => 217 | 24 => 218 | 14 => 208 | 15 => 209 | 16 => 210 | 17 => 211 | 18 => 212 | 19 => 213 | 20 => 214 | 21 => 215 | 22 => 216 | 25 => 258 | 26 => 259 | 27 => 260 | 28 => 261 | 29 => 262 | 30 => 263 | 31 => 297 | n => n, fun | 26 => 3 | 28 => 175 | 24 => 48 | 0 => 0 | 3 => 3 | 37 => 116 | 48 => 196 | 50 => 65 | 4 => 4 | 40 => 319 | 39 => 318 | 45 => 323 | 5 => 5 | 9 => 9 | 51 => 373 | 55 => 117 | 57 => 400 | 58 => 204 | 33 => 207 | n => n, fun | n => n⟩
theorem Tryz.sorted66 : Go.Proofs.SlLaysZI.n6 Tryz.prog Tryz.sorted66_ren := {
  mixed := by kernel_rfl
  f6 := ⟨Tryz.f66.name, by decide, Tryz.func66.trans (congrArg some (by kernel_rfl))⟩
  f8 := ⟨Tryz.f105.name, by decide, Tryz.func105.trans (congrArg some (by kernel_rfl))⟩
  f11 := ⟨Tryz.f149.name, by decide, Tryz.func149.trans (congrArg some (by kernel_rfl))⟩
  t0 := Tryz.underlying0
  a0 := Tryz.isAgg0
  z0 := Tryz.sizeOf0
  v0 := Tryz.zeroValue0
  t24 := Tryz.underlying48
  a24 := Tryz.isAgg48
  z24 := Tryz.sizeOf48
  v24 := Tryz.zeroValue48
  t26 := Tryz.underlying3
  a26 := Tryz.isAgg3
  z26 := Tryz.sizeOf3
  v26 := Tryz.zeroValue3
  t28 := Tryz.underlying175
  a28 := Tryz.isAgg175
  z28 := Tryz.sizeOf175
  v28 := Tryz.zeroValue175
  i26 := by kernel_rfl }
def Tryz.sort106_ren : Go.Shelf.Ren := ⟨fun | 5 => 106 | 8 => 151 | 7 => 150 | 19 => 217 | 20 => 218 | 10 => 208 | 11 => 209 | 12 => 210 | 13 => 211 | 14 => 212 | 15 => 213 | 16 => 214 | 17 => 215 | 18 => 216 | 30 => 258 | 31 => 259 | 32 => 260 | 33 => 261 | 34 => 262 | 35 => 263 | 40 => 297 | n => n, fun | 23 => 48 | 25 => 3 | 3 => 3 | 32 => 116 | 22 => 48 | 0 => 0 | 44 => 196 | 46 => 65 | 4 => 4 | 36 => 319 | 35 => 318 | 41 => 323 | 5 => 5 | 9 => 9 | 53 => 373 | 57 => 117 | 63 => 400 | 64 => 204 | n => n, fun | n => n⟩
theorem Tryz.sort106 : Go.Proofs.SlLaysM.n5 Tryz.prog Tryz.sort106_ren := {
  mixed := by kernel_rfl
  f5 := ⟨Tryz.f106.name, by decide, Tryz.func106.trans (congrArg some (by kernel_rfl))⟩
  f7 := ⟨Tryz.f150.name, by decide, Tryz.func150.trans (congrArg some (by kernel_rfl))⟩
  f8 := Tryz.func151.trans (congrArg some (by kernel_rfl))
  f10 := ⟨Tryz.f208.name, by decide, Tryz.func208.trans (congrArg some (by kernel_rfl))⟩
  f11 := ⟨Tryz.f209.name, by decide, Tryz.func209.trans (congrArg some (by kernel_rfl))⟩
  f12 := ⟨Tryz.f210.name, by decide, Tryz.func210.trans (congrArg some (by kernel_rfl))⟩
  f13 := ⟨Tryz.f211.name, by decide, Tryz.func211.trans (congrArg some (by kernel_rfl))⟩
  f14 := ⟨Tryz.f212.name, by decide, Tryz.func212.trans (congrArg some (by kernel_rfl))⟩
  f15 := ⟨Tryz.f213.name, by decide, Tryz.func213.trans (congrArg some (by kernel_rfl))⟩
  f16 := ⟨Tryz.f214.name, by decide, Tryz.func214.trans (congrArg some (by kernel_rfl))⟩
  f17 := ⟨Tryz.f215.name, by decide, Tryz.func215.trans (congrArg some (by kernel_rfl))⟩
  f18 := ⟨Tryz.f216.name, by decide, Tryz.func216.trans (congrArg some (by kernel_rfl))⟩
  f19 := Tryz.func217.trans (congrArg some (by kernel_rfl))
  f20 := Tryz.func218.trans (congrArg some (by kernel_rfl))
  f30 := ⟨Tryz.f258.name, by decide, Tryz.func258.trans (congrArg some (by kernel_rfl))⟩
  f31 := Tryz.func259.trans (congrArg some (by kernel_rfl))
  f32 := Tryz.func260.trans (congrArg some (by kernel_rfl))
  f33 := ⟨Tryz.f261.name, by decide, Tryz.func261.trans (congrArg some (by kernel_rfl))⟩
  f34 := ⟨Tryz.f262.name, by decide, Tryz.func262.trans (congrArg some (by kernel_rfl))⟩
  f35 := ⟨Tryz.f263.name, by decide, Tryz.func263.trans (congrArg some (by kernel_rfl))⟩
  f40 := ⟨Tryz.f297.name, by decide, Tryz.func297.trans (congrArg some (by kernel_rfl))⟩
  t0 := Tryz.underlying0
  a0 := Tryz.isAgg0
  z0 := Tryz.sizeOf0
  v0 := Tryz.zeroValue0
  t3 := Tryz.underlying3
  a3 := Tryz.isAgg3
  z3 := Tryz.sizeOf3
  v3 := Tryz.zeroValue3
  t4 := Tryz.underlying4
  a4 := Tryz.isAgg4
  z4 := Tryz.sizeOf4
  v4 := Tryz.zeroValue4
  t5 := Tryz.underlying5
  a5 := Tryz.isAgg5
  z5 := Tryz.sizeOf5
  v5 := Tryz.zeroValue5
  t9 := Tryz.underlying9
  a9 := Tryz.isAgg9
  z9 := Tryz.sizeOf9
  v9 := Tryz.zeroValue9
  t22 := Tryz.underlying48
  a22 := Tryz.isAgg48
  z22 := Tryz.sizeOf48
  v22 := Tryz.zeroValue48
  t23 := Tryz.underlying48
  a23 := Tryz.isAgg48
  z23 := Tryz.sizeOf48
  v23 := Tryz.zeroValue48
  t25 := Tryz.underlying3
  a25 := Tryz.isAgg3
  z25 := Tryz.sizeOf3
  v25 := Tryz.zeroValue3
  t32 := Tryz.underlying116
  a32 := Tryz.isAgg116
  z32 := Tryz.sizeOf116
  v32 := Tryz.zeroValue116
  t35 := Tryz.underlying318
  a35 := Tryz.isAgg318
  z35 := Tryz.sizeOf318
  v35 := Tryz.zeroValue318
  t36 := Tryz.underlying319
  a36 := Tryz.isAgg319
  z36 := Tryz.sizeOf319
  v36 := Tryz.zeroValue319
  t41 := Tryz.underlying323
  a41 := Tryz.isAgg323
  z41 := Tryz.sizeOf323
  v41 := Tryz.zeroValue323
  t44 := Tryz.underlying196
  a44 := Tryz.isAgg196
  z44 := Tryz.sizeOf196
  v44 := Tryz.zeroValue196
  t46 := Tryz.underlying65
  a46 := Tryz.isAgg65
  z46 := Tryz.sizeOf65
  v46 := Tryz.zeroValue65
  t53 := Tryz.underlying373
  a53 := Tryz.isAgg373
  z53 := Tryz.sizeOf373
  v53 := Tryz.zeroValue373
  t57 := Tryz.underlying117
  a57 := Tryz.isAgg117
  z57 := Tryz.sizeOf117
  v57 := Tryz.zeroValue117
  t63 := Tryz.underlying400
  a63 := Tryz.isAgg400
  z63 := Tryz.sizeOf400
  v63 := Tryz.zeroValue400
  t64 := Tryz.underlying204
  a64 := Tryz.isAgg204
  z64 := Tryz.sizeOf204
  v64 := Tryz.zeroValue204 }
end Go.Proofs
namespace Go.Proofs
open Go.RowKit Go.Maps Go.Sort Go.Shelf
theorem Tryz.sorts66 (m : Nat) : AnyZI.SortsIn Tryz.prog Tryz.sorted66_ren Fence.wide m :=
  ⟨fun blk off cap ss W hH hblk hsz => callsIn_wide.2 (AnyM.slices_Sort_int Tryz.sort106 blk off cap ss W hH hblk hsz),
   fun p cap W => callsIn_wide.2 (AnyM.slices_Sort_int_none Tryz.sort106 p cap W)⟩
theorem Tryz.maps_Keys_67 (mb : Option Nat) (W : World) : CallsIn Fence.wide 5 Tryz.prog 67 #[.map mb] W fun e w' => e = .returned (.func (.func 107) #[] #[.pointer (some ⟨W.heap.size, 0, none⟩)]) ∧ w' = W.alloc (.cells #[.map mb] 105) :=
  AnyZI.keys_in Tryz.keys67 Fence.wide 5 trivial rfl mb W
theorem Tryz.maps_Keys_118 (mb : Option Nat) (W : World) : CallsIn Fence.wide 5 Tryz.prog 118 #[.map mb] W fun e w' => e = .returned (.func (.func 176) #[] #[.pointer (some ⟨W.heap.size, 0, none⟩)]) ∧ w' = W.alloc (.cells #[.map mb] 106) :=
  AnyZI.keys_in Tryz.keys118 Fence.wide 5 trivial rfl mb W
set_option maxHeartbeats 1000000 in
theorem Tryz.slices_Sorted_66_67 {H : Type} (Bm b nn : Nat) (D0 : DataW H) (R : Value → Option (DataW H × List MemPlace)) (w : World) (hBm : Bm < w.heap.size) (hm : w.cell? ⟨Bm, 0, none⟩ = some (.map (some b))) (hown : w.ownsMap Tryz.prog 3 R b nn D0) (hmax : Maps.size D0 ≤ maxLen) (hbytes : Maps.size D0 * 8 ≤ 140737488355328) :
    CallsIn Fence.wide 5 Tryz.prog 66 #[.func (.func 107) #[] #[.pointer (some ⟨Bm, 0, none⟩)]] w fun e w' => ∃ (v : Value) (ss : List Int), e = .returned v ∧ ss.Perm (intKeys D0) ∧
      w'.ownsRow w.heap.size 3 1 v ss.length ((ss.mergeSort (fun x y => decide (x ≤ y))).map encZ) ∧ (v = .slice none 0 0 ↔ ss = []) ∧ Below w.heap.size w w' := by
  have hseq : SeqGives Fence.wide 2 Tryz.prog 107 #[.pointer (some ⟨Bm, 0, none⟩)] encZ (fun ss => ss.Perm (intKeys D0)) (Maps.size D0) w :=
    AnyZI.keys_gives (ρ := Tryz.keys67_ren) { Tryz.keys67 with } Fence.wide _ trivial rfl (by omega) Bm b nn D0 w hBm hm hown
  exact AnyZI.sorted_in Tryz.sorted66 Fence.wide 5 trivial trivial trivial trivial rfl (by omega) (Tryz.sorts66 _) (enters_of Tryz.func106 (by kernel_rfl) rfl) 107 #[.pointer (some ⟨Bm, 0, none⟩)] trivial (enters_of Tryz.func107 (by kernel_rfl) rfl) _ _ hmax hbytes _ hseq
set_option maxHeartbeats 1000000 in
theorem Tryz.slices_Sorted_66_118 {H : Type} (Bm b nn : Nat) (D0 : DataW H) (R : Value → Option (DataW H × List MemPlace)) (w : World) (hBm : Bm < w.heap.size) (hm : w.cell? ⟨Bm, 0, none⟩ = some (.map (some b))) (hown : w.ownsMap Tryz.prog 3 R b nn D0) (hmax : Maps.size D0 ≤ maxLen) (hbytes : Maps.size D0 * 8 ≤ 140737488355328) :
    CallsIn Fence.wide 5 Tryz.prog 66 #[.func (.func 176) #[] #[.pointer (some ⟨Bm, 0, none⟩)]] w fun e w' => ∃ (v : Value) (ss : List Int), e = .returned v ∧ ss.Perm (intKeys D0) ∧
      w'.ownsRow w.heap.size 3 1 v ss.length ((ss.mergeSort (fun x y => decide (x ≤ y))).map encZ) ∧ (v = .slice none 0 0 ↔ ss = []) ∧ Below w.heap.size w w' := by
  have hseq : SeqGives Fence.wide 2 Tryz.prog 176 #[.pointer (some ⟨Bm, 0, none⟩)] encZ (fun ss => ss.Perm (intKeys D0)) (Maps.size D0) w :=
    AnyZI.keys_gives (ρ := Tryz.keys118_ren) { Tryz.keys118 with } Fence.wide _ trivial rfl (by omega) Bm b nn D0 w hBm hm hown
  exact AnyZI.sorted_in Tryz.sorted66 Fence.wide 5 trivial trivial trivial trivial rfl (by omega) (Tryz.sorts66 _) (enters_of Tryz.func106 (by kernel_rfl) rfl) 176 #[.pointer (some ⟨Bm, 0, none⟩)] trivial (enters_of Tryz.func176 (by kernel_rfl) rfl) _ _ hmax hbytes _ hseq
end Go.Proofs
