/- The library contracts on sorted keys of a map, laid at this translation by the kit (its plain mode). -/
import Derived.Shelf.SlIter.Nil
import Derived.Shelf.SortM.Plain
import Derived.Shelf.SortM.SortNone
import Derived.Ground.GgzProg
import Derived.Ground.SlgmProg
import Derived.Test.YtgeofijddhflaaaGreatDoorProg
namespace Go.Proofs
open Go.Shelf
def Tryz.keys95_ren : Go.Shelf.Ren := ⟨fun | 7 => 95 | 10 => 141 | n => n, fun | 23 => 59 | 26 => 9 | 3 => 81 | 28 => 145 | 0 => 0 | 27 => 144 | 33 => 75 | 4 => 4 | n => n, fun | n => n⟩
theorem Tryz.keys95 : Go.Proofs.SlLaysZ.n7 Tryz.prog Tryz.keys95_ren := {
  mixed := by kernel_rfl
  f7 := ⟨Tryz.f95.name, by decide, Tryz.func95.trans (congrArg some (by kernel_rfl))⟩
  f10 := ⟨Tryz.f141.name, by decide, Tryz.func141.trans (congrArg some (by kernel_rfl))⟩
  t0 := Tryz.underlying0
  a0 := Tryz.isAgg0
  z0 := Tryz.sizeOf0
  v0 := Tryz.zeroValue0
  t4 := Tryz.underlying4
  a4 := Tryz.isAgg4
  z4 := Tryz.sizeOf4
  v4 := Tryz.zeroValue4
  t23 := Tryz.underlying59
  a23 := Tryz.isAgg59
  z23 := Tryz.sizeOf59
  v23 := Tryz.zeroValue59
  t26 := Tryz.underlying9
  a26 := Tryz.isAgg9
  z26 := Tryz.sizeOf9
  v26 := Tryz.zeroValue9
  t27 := Tryz.underlying144
  a27 := Tryz.isAgg144
  z27 := Tryz.sizeOf144
  v27 := Tryz.zeroValue144
  t28 := Tryz.underlying145
  a28 := Tryz.isAgg145
  z28 := Tryz.sizeOf145
  v28 := Tryz.zeroValue145
  t33 := Tryz.underlying75
  a33 := Tryz.isAgg75
  z33 := Tryz.sizeOf75
  v33 := Tryz.zeroValue75 }
def Tryz.sorted94_ren : Go.Shelf.Ren := ⟨fun | 6 => 94 | 8 => 139 | 9 => 140 | 11 => 171 | 13 => 148 | 12 => 172 | 23 => 184 | 24 => 185 | 14 => 193 | 15 => 194 | 16 => 195 | 17 => 196 | 18 => 197 | 19 => 198 | 20 => 199 | 21 => 200 | 22 => 201 | 25 => 213 | 26 => 207 | 27 => 208 | 28 => 214 | 29 => 215 | 30 => 216 | 31 => 227 | n => n, fun | 26 => 9 | 28 => 145 | 24 => 22 | 0 => 0 | 3 => 3 | 37 => 181 | 48 => 214 | 50 => 187 | 4 => 4 | 40 => 208 | 39 => 207 | 45 => 124 | 5 => 5 | 9 => 9 | 51 => 232 | 55 => 155 | 57 => 248 | 58 => 54 | 33 => 75 | n => n, fun | n => n⟩
theorem Tryz.sorted94 : Go.Proofs.SlLaysZ.n6 Tryz.prog Tryz.sorted94_ren := {
  mixed := by kernel_rfl
  f6 := ⟨Tryz.f94.name, by decide, Tryz.func94.trans (congrArg some (by kernel_rfl))⟩
  f8 := ⟨Tryz.f139.name, by decide, Tryz.func139.trans (congrArg some (by kernel_rfl))⟩
  f11 := ⟨Tryz.f171.name, by decide, Tryz.func171.trans (congrArg some (by kernel_rfl))⟩
  t0 := Tryz.underlying0
  a0 := Tryz.isAgg0
  z0 := Tryz.sizeOf0
  v0 := Tryz.zeroValue0
  t24 := Tryz.underlying22
  a24 := Tryz.isAgg22
  z24 := Tryz.sizeOf22
  v24 := Tryz.zeroValue22
  t26 := Tryz.underlying9
  a26 := Tryz.isAgg9
  z26 := Tryz.sizeOf9
  v26 := Tryz.zeroValue9
  t28 := Tryz.underlying145
  a28 := Tryz.isAgg145
  z28 := Tryz.sizeOf145
  v28 := Tryz.zeroValue145
  i26 := by kernel_rfl }
def Tryz.sort140_ren : Go.Shelf.Ren := ⟨fun | 6 => 140 | 8 => 148 | 9 => 172 | 19 => 184 | 20 => 185 | 21 => 193 | 22 => 194 | 23 => 195 | 24 => 196 | 25 => 197 | 26 => 198 | 27 => 199 | 28 => 200 | 29 => 201 | 36 => 213 | 31 => 207 | 32 => 208 | 37 => 214 | 38 => 215 | 39 => 216 | 41 => 227 | n => n, fun | 27 => 22 | 29 => 9 | 3 => 3 | 32 => 181 | 26 => 22 | 0 => 0 | 44 => 214 | 46 => 187 | 4 => 4 | 36 => 208 | 35 => 207 | 41 => 124 | 5 => 5 | 9 => 9 | 53 => 232 | 57 => 155 | 63 => 248 | 64 => 54 | n => n, fun | n => n⟩
theorem Tryz.sort140 : Go.Proofs.SlLaysM.n6 Tryz.prog Tryz.sort140_ren := {
  mixed := by kernel_rfl
  f6 := ⟨Tryz.f140.name, by decide, Tryz.func140.trans (congrArg some (by kernel_rfl))⟩
  f8 := Tryz.func148.trans (congrArg some (by kernel_rfl))
  f9 := ⟨Tryz.f172.name, by decide, Tryz.func172.trans (congrArg some (by kernel_rfl))⟩
  f19 := Tryz.func184.trans (congrArg some (by kernel_rfl))
  f20 := Tryz.func185.trans (congrArg some (by kernel_rfl))
  f21 := ⟨Tryz.f193.name, by decide, Tryz.func193.trans (congrArg some (by kernel_rfl))⟩
  f22 := ⟨Tryz.f194.name, by decide, Tryz.func194.trans (congrArg some (by kernel_rfl))⟩
  f23 := ⟨Tryz.f195.name, by decide, Tryz.func195.trans (congrArg some (by kernel_rfl))⟩
  f24 := ⟨Tryz.f196.name, by decide, Tryz.func196.trans (congrArg some (by kernel_rfl))⟩
  f25 := ⟨Tryz.f197.name, by decide, Tryz.func197.trans (congrArg some (by kernel_rfl))⟩
  f26 := ⟨Tryz.f198.name, by decide, Tryz.func198.trans (congrArg some (by kernel_rfl))⟩
  f27 := ⟨Tryz.f199.name, by decide, Tryz.func199.trans (congrArg some (by kernel_rfl))⟩
  f28 := ⟨Tryz.f200.name, by decide, Tryz.func200.trans (congrArg some (by kernel_rfl))⟩
  f29 := ⟨Tryz.f201.name, by decide, Tryz.func201.trans (congrArg some (by kernel_rfl))⟩
  f31 := Tryz.func207.trans (congrArg some (by kernel_rfl))
  f32 := Tryz.func208.trans (congrArg some (by kernel_rfl))
  f36 := ⟨Tryz.f213.name, by decide, Tryz.func213.trans (congrArg some (by kernel_rfl))⟩
  f37 := ⟨Tryz.f214.name, by decide, Tryz.func214.trans (congrArg some (by kernel_rfl))⟩
  f38 := ⟨Tryz.f215.name, by decide, Tryz.func215.trans (congrArg some (by kernel_rfl))⟩
  f39 := ⟨Tryz.f216.name, by decide, Tryz.func216.trans (congrArg some (by kernel_rfl))⟩
  f41 := ⟨Tryz.f227.name, by decide, Tryz.func227.trans (congrArg some (by kernel_rfl))⟩
  t0 := Tryz.underlying0
  a0 := Tryz.isAgg0
  z0 := Tryz.sizeOf0
  v0 := Tryz.zeroValue0
  t3 := Tryz.underlying3
  a3 := Tryz.isAgg3
  z3 := Tryz.sizeOf3
  v3 := Tryz.zeroValue3
  t4 := Tryz.underlying4
  a4 := Tryz.isAgg4
  z4 := Tryz.sizeOf4
  v4 := Tryz.zeroValue4
  t5 := Tryz.underlying5
  a5 := Tryz.isAgg5
  z5 := Tryz.sizeOf5
  v5 := Tryz.zeroValue5
  t9 := Tryz.underlying9
  a9 := Tryz.isAgg9
  z9 := Tryz.sizeOf9
  v9 := Tryz.zeroValue9
  t26 := Tryz.underlying22
  a26 := Tryz.isAgg22
  z26 := Tryz.sizeOf22
  v26 := Tryz.zeroValue22
  t27 := Tryz.underlying22
  a27 := Tryz.isAgg22
  z27 := Tryz.sizeOf22
  v27 := Tryz.zeroValue22
  t29 := Tryz.underlying9
  a29 := Tryz.isAgg9
  z29 := Tryz.sizeOf9
  v29 := Tryz.zeroValue9
  t32 := Tryz.underlying181
  a32 := Tryz.isAgg181
  z32 := Tryz.sizeOf181
  v32 := Tryz.zeroValue181
  t35 := Tryz.underlying207
  a35 := Tryz.isAgg207
  z35 := Tryz.sizeOf207
  v35 := Tryz.zeroValue207
  t36 := Tryz.underlying208
  a36 := Tryz.isAgg208
  z36 := Tryz.sizeOf208
  v36 := Tryz.zeroValue208
  t41 := Tryz.underlying124
  a41 := Tryz.isAgg124
  z41 := Tryz.sizeOf124
  v41 := Tryz.zeroValue124
  t44 := Tryz.underlying214
  a44 := Tryz.isAgg214
  z44 := Tryz.sizeOf214
  v44 := Tryz.zeroValue214
  t46 := Tryz.underlying187
  a46 := Tryz.isAgg187
  z46 := Tryz.sizeOf187
  v46 := Tryz.zeroValue187
  t53 := Tryz.underlying232
  a53 := Tryz.isAgg232
  z53 := Tryz.sizeOf232
  v53 := Tryz.zeroValue232
  t57 := Tryz.underlying155
  a57 := Tryz.isAgg155
  z57 := Tryz.sizeOf155
  v57 := Tryz.zeroValue155
  t63 := Tryz.underlying248
  a63 := Tryz.isAgg248
  z63 := Tryz.sizeOf248
  v63 := Tryz.zeroValue248
  t64 := Tryz.underlying54
  a64 := Tryz.isAgg54
  z64 := Tryz.sizeOf54
  v64 := Tryz.zeroValue54 }
open Go.RowKit Go.Maps Go.Sort Go.Shelf


theorem Tryz.sorts94 (m : Nat) : AnyZ.SortsIn Tryz.prog Tryz.sorted94_ren Fence.wide m :=
  ⟨fun blk off cap ss W hH hblk hsz => callsIn_wide.2 (AnyM.slices_Sort_string Tryz.sort140 blk off cap ss W hH hblk hsz),
   fun p cap W => callsIn_wide.2 (AnyM.slices_Sort_string_none Tryz.sort140 p cap W)⟩

theorem Tryz.maps_Keys_95 (mb : Option Nat) (W : World) : CallsIn Fence.wide 5 Tryz.prog 95 #[.map mb] W fun e w' => e = .returned (.func (.func 141) #[] #[.pointer (some ⟨W.heap.size, 0, none⟩)]) ∧ w' = W.alloc (.cells #[.map mb] 59) :=
  AnyZ.keys_in Tryz.keys95 Fence.wide 5 trivial rfl mb W

set_option maxHeartbeats 1000000 in
theorem Tryz.slices_Sorted_keys_94_95 {H : Type} (b nn : Nat) (D0 : DataW H) (R : Value → Option (DataW H × List MemPlace)) (w : World) (hown : w.ownsMap Tryz.prog 9 R b nn D0) (hmax : Maps.size D0 ≤ maxLen) (hbytes : Maps.size D0 * 16 ≤ 140737488355328) :
    CallsIn Fence.wide 5 Tryz.prog 94 #[.func (.func 141) #[] #[.pointer (some ⟨w.heap.size, 0, none⟩)]] (w.alloc (.cells #[.map (some b)] 59)) fun e w' => ∃ (v : Value) (ss : List (List UInt8)), e = .returned v ∧ ss.Perm (strKeys D0) ∧
      w'.ownsRow (w.alloc (.cells #[.map (some b)] 59)).heap.size 9 1 v ss.length ((ss.mergeSort (fun x y => decide (x ≤ y))).map encStr) ∧ (v = .slice none 0 0 ↔ ss = []) ∧ Below (w.alloc (.cells #[.map (some b)] 59)).heap.size (w.alloc (.cells #[.map (some b)] 59)) w' := by
  have hbl := hown.lt
  have hseq : SeqGives Fence.wide 2 Tryz.prog 141 #[.pointer (some ⟨w.heap.size, 0, none⟩)] encStr (fun ss => ss.Perm (strKeys D0)) (Maps.size D0) (w.alloc (.cells #[.map (some b)] 59)) :=
    AnyZ.keys_gives (ρ := Tryz.keys95_ren) { Tryz.keys95 with } Fence.wide _ trivial rfl (by omega) w.heap.size b nn D0 _ (by simp) (by simp) (by
      obtain ⟨es, clock, hb, Ft, hs, hD⟩ := hown
      exact ⟨es, clock, (Below.heap_alloc _ _ b hbl).trans hb, Ft, hs, hD⟩)
  exact AnyZ.sorted_in Tryz.sorted94 Fence.wide 5 trivial trivial trivial trivial rfl (by omega) (Tryz.sorts94 _) (enters_of Tryz.func140 (by kernel_rfl) rfl) 141 #[.pointer (some ⟨w.heap.size, 0, none⟩)] trivial (enters_of Tryz.func141 (by kernel_rfl) rfl) _ _ hmax hbytes _ hseq

set_option maxHeartbeats 1000000 in
theorem Tryz.slices_Sorted_keys_nil_94_95 (w : World) :
    CallsIn Fence.wide 5 Tryz.prog 94 #[.func (.func 141) #[] #[.pointer (some ⟨w.heap.size, 0, none⟩)]] (w.alloc (.cells #[.map none] 59)) fun e w' => ∃ (v : Value) (ss : List (List UInt8)), e = .returned v ∧ ss = [] ∧
      w'.ownsRow (w.alloc (.cells #[.map none] 59)).heap.size 9 1 v ss.length ((ss.mergeSort (fun x y => decide (x ≤ y))).map encStr) ∧ (v = .slice none 0 0 ↔ ss = []) ∧ Below (w.alloc (.cells #[.map none] 59)).heap.size (w.alloc (.cells #[.map none] 59)) w' := by
  have hseq : SeqGives Fence.wide 2 Tryz.prog 141 #[.pointer (some ⟨w.heap.size, 0, none⟩)] encStr (fun ss : List (List UInt8) => ss = []) 0 (w.alloc (.cells #[.map none] 59)) :=
    AnyZ.keys_gives_nil (ρ := Tryz.keys95_ren) { Tryz.keys95 with } Fence.wide _ trivial rfl w.heap.size _ (by simp) (by simp)
  exact AnyZ.sorted_in Tryz.sorted94 Fence.wide 5 trivial trivial trivial trivial rfl (by omega) (Tryz.sorts94 _) (enters_of Tryz.func140 (by kernel_rfl) rfl) 141 #[.pointer (some ⟨w.heap.size, 0, none⟩)] trivial (enters_of Tryz.func141 (by kernel_rfl) rfl) _ 0 (Nat.zero_le _) (by omega) _ hseq



end Go.Proofs
