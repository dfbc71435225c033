/- The library contracts on sorted keys of a map, laid at this translation by the kit (its plain mode). -/
import Derived.Shelf.SlIter.Nil
import Derived.Shelf.SortM.Plain
import Derived.Shelf.SortM.SortNone
import Derived.Ground.GgzProg
import Derived.Ground.SlgmProg
import Derived.Test.YteehkcpokgeipaaGreatDoorProg
namespace Go.Proofs
open Go.Shelf
def Tryz.keys29_ren : Go.Shelf.Ren := ⟨fun | 7 => 29 | 10 => 70 | n => n, fun | 23 => 49 | 26 => 9 | 3 => 69 | 28 => 67 | 0 => 0 | 27 => 66 | 33 => 111 | 4 => 4 | n => n, fun | n => n⟩
theorem Tryz.keys29 : Go.Proofs.SlLaysZ.n7 Tryz.prog Tryz.keys29_ren := {
  mixed := by kernel_rfl
  f7 := ⟨Tryz.f29.name, by decide, Tryz.func29.trans (congrArg some (by kernel_rfl))⟩
  f10 := ⟨Tryz.f70.name, by decide, Tryz.func70.trans (congrArg some (by kernel_rfl))⟩
  t0 := Tryz.underlying0
  a0 := Tryz.isAgg0
  z0 := Tryz.sizeOf0
  v0 := Tryz.zeroValue0
  t4 := Tryz.underlying4
  a4 := Tryz.isAgg4
  z4 := Tryz.sizeOf4
  v4 := Tryz.zeroValue4
  t23 := Tryz.underlying49
  a23 := Tryz.isAgg49
  z23 := Tryz.sizeOf49
  v23 := Tryz.zeroValue49
  t26 := Tryz.underlying9
  a26 := Tryz.isAgg9
  z26 := Tryz.sizeOf9
  v26 := Tryz.zeroValue9
  t27 := Tryz.underlying66
  a27 := Tryz.isAgg66
  z27 := Tryz.sizeOf66
  v27 := Tryz.zeroValue66
  t28 := Tryz.underlying67
  a28 := Tryz.isAgg67
  z28 := Tryz.sizeOf67
  v28 := Tryz.zeroValue67
  t33 := Tryz.underlying111
  a33 := Tryz.isAgg111
  z33 := Tryz.sizeOf111
  v33 := Tryz.zeroValue111 }
def Tryz.sorted28_ren : Go.Shelf.Ren := ⟨fun | 6 => 28 | 8 => 68 | 9 => 69 | 11 => 110 | 13 => 109 | 12 => 111 | 23 => 143 | 24 => 144 | 14 => 145 | 15 => 146 | 16 => 147 | 17 => 148 | 18 => 149 | 19 => 150 | 20 => 151 | 21 => 152 | 22 => 153 | 25 => 175 | 26 => 170 | 27 => 171 | 28 => 176 | 29 => 177 | 30 => 178 | 31 => 192 | n => n, fun | 26 => 9 | 28 => 67 | 24 => 32 | 0 => 0 | 3 => 3 | 37 => 155 | 48 => 165 | 50 => 134 | 4 => 4 | 40 => 172 | 39 => 171 | 45 => 176 | 5 => 5 | 9 => 9 | 51 => 198 | 55 => 91 | 57 => 216 | 58 => 217 | 33 => 111 | n => n, fun | n => n⟩
theorem Tryz.sorted28 : Go.Proofs.SlLaysZ.n6 Tryz.prog Tryz.sorted28_ren := {
  mixed := by kernel_rfl
  f6 := ⟨Tryz.f28.name, by decide, Tryz.func28.trans (congrArg some (by kernel_rfl))⟩
  f8 := ⟨Tryz.f68.name, by decide, Tryz.func68.trans (congrArg some (by kernel_rfl))⟩
  f11 := ⟨Tryz.f110.name, by decide, Tryz.func110.trans (congrArg some (by kernel_rfl))⟩
  t0 := Tryz.underlying0
  a0 := Tryz.isAgg0
  z0 := Tryz.sizeOf0
  v0 := Tryz.zeroValue0
  t24 := Tryz.underlying32
  a24 := Tryz.isAgg32
  z24 := Tryz.sizeOf32
  v24 := Tryz.zeroValue32
  t26 := Tryz.underlying9
  a26 := Tryz.isAgg9
  z26 := Tryz.sizeOf9
  v26 := Tryz.zeroValue9
  t28 := Tryz.underlying67
  a28 := Tryz.isAgg67
  z28 := Tryz.sizeOf67
  v28 := Tryz.zeroValue67
  i26 := by kernel_rfl }
def Tryz.sort69_ren : Go.Shelf.Ren := ⟨fun | 6 => 69 | 8 => 109 | 9 => 111 | 19 => 143 | 20 => 144 | 21 => 145 | 22 => 146 | 23 => 147 | 24 => 148 | 25 => 149 | 26 => 150 | 27 => 151 | 28 => 152 | 29 => 153 | 36 => 175 | 31 => 170 | 32 => 171 | 37 => 176 | 38 => 177 | 39 => 178 | 41 => 192 | n => n, fun | 27 => 32 | 29 => 9 | 3 => 3 | 32 => 155 | 26 => 32 | 0 => 0 | 44 => 165 | 46 => 134 | 4 => 4 | 36 => 172 | 35 => 171 | 41 => 176 | 5 => 5 | 9 => 9 | 53 => 198 | 57 => 91 | 63 => 216 | 64 => 217 | n => n, fun | n => n⟩
theorem Tryz.sort69 : Go.Proofs.SlLaysM.n6 Tryz.prog Tryz.sort69_ren := {
  mixed := by kernel_rfl
  f6 := ⟨Tryz.f69.name, by decide, Tryz.func69.trans (congrArg some (by kernel_rfl))⟩
  f8 := Tryz.func109.trans (congrArg some (by kernel_rfl))
  f9 := ⟨Tryz.f111.name, by decide, Tryz.func111.trans (congrArg some (by kernel_rfl))⟩
  f19 := Tryz.func143.trans (congrArg some (by kernel_rfl))
  f20 := Tryz.func144.trans (congrArg some (by kernel_rfl))
  f21 := ⟨Tryz.f145.name, by decide, Tryz.func145.trans (congrArg some (by kernel_rfl))⟩
  f22 := ⟨Tryz.f146.name, by decide, Tryz.func146.trans (congrArg some (by kernel_rfl))⟩
  f23 := ⟨Tryz.f147.name, by decide, Tryz.func147.trans (congrArg some (by kernel_rfl))⟩
  f24 := ⟨Tryz.f148.name, by decide, Tryz.func148.trans (congrArg some (by kernel_rfl))⟩
  f25 := ⟨Tryz.f149.name, by decide, Tryz.func149.trans (congrArg some (by kernel_rfl))⟩
  f26 := ⟨Tryz.f150.name, by decide, Tryz.func150.trans (congrArg some (by kernel_rfl))⟩
  f27 := ⟨Tryz.f151.name, by decide, Tryz.func151.trans (congrArg some (by kernel_rfl))⟩
  f28 := ⟨Tryz.f152.name, by decide, Tryz.func152.trans (congrArg some (by kernel_rfl))⟩
  f29 := ⟨Tryz.f153.name, by decide, Tryz.func153.trans (congrArg some (by kernel_rfl))⟩
  f31 := Tryz.func170.trans (congrArg some (by kernel_rfl))
  f32 := Tryz.func171.trans (congrArg some (by kernel_rfl))
  f36 := ⟨Tryz.f175.name, by decide, Tryz.func175.trans (congrArg some (by kernel_rfl))⟩
  f37 := ⟨Tryz.f176.name, by decide, Tryz.func176.trans (congrArg some (by kernel_rfl))⟩
  f38 := ⟨Tryz.f177.name, by decide, Tryz.func177.trans (congrArg some (by kernel_rfl))⟩
  f39 := ⟨Tryz.f178.name, by decide, Tryz.func178.trans (congrArg some (by kernel_rfl))⟩
  f41 := ⟨Tryz.f192.name, by decide, Tryz.func192.trans (congrArg some (by kernel_rfl))⟩
  t0 := Tryz.underlying0
  a0 := Tryz.isAgg0
  z0 := Tryz.sizeOf0
  v0 := Tryz.zeroValue0
  t3 := Tryz.underlying3
  a3 := Tryz.isAgg3
  z3 := Tryz.sizeOf3
  v3 := Tryz.zeroValue3
  t4 := Tryz.underlying4
  a4 := Tryz.isAgg4
  z4 := Tryz.sizeOf4
  v4 := Tryz.zeroValue4
  t5 := Tryz.underlying5
  a5 := Tryz.isAgg5
  z5 := Tryz.sizeOf5
  v5 := Tryz.zeroValue5
  t9 := Tryz.underlying9
  a9 := Tryz.isAgg9
  z9 := Tryz.sizeOf9
  v9 := Tryz.zeroValue9
  t26 := Tryz.underlying32
  a26 := Tryz.isAgg32
  z26 := Tryz.sizeOf32
  v26 := Tryz.zeroValue32
  t27 := Tryz.underlying32
  a27 := Tryz.isAgg32
  z27 := Tryz.sizeOf32
  v27 := Tryz.zeroValue32
  t29 := Tryz.underlying9
  a29 := Tryz.isAgg9
  z29 := Tryz.sizeOf9
  v29 := Tryz.zeroValue9
  t32 := Tryz.underlying155
  a32 := Tryz.isAgg155
  z32 := Tryz.sizeOf155
  v32 := Tryz.zeroValue155
  t35 := Tryz.underlying171
  a35 := Tryz.isAgg171
  z35 := Tryz.sizeOf171
  v35 := Tryz.zeroValue171
  t36 := Tryz.underlying172
  a36 := Tryz.isAgg172
  z36 := Tryz.sizeOf172
  v36 := Tryz.zeroValue172
  t41 := Tryz.underlying176
  a41 := Tryz.isAgg176
  z41 := Tryz.sizeOf176
  v41 := Tryz.zeroValue176
  t44 := Tryz.underlying165
  a44 := Tryz.isAgg165
  z44 := Tryz.sizeOf165
  v44 := Tryz.zeroValue165
  t46 := Tryz.underlying134
  a46 := Tryz.isAgg134
  z46 := Tryz.sizeOf134
  v46 := Tryz.zeroValue134
  t53 := Tryz.underlying198
  a53 := Tryz.isAgg198
  z53 := Tryz.sizeOf198
  v53 := Tryz.zeroValue198
  t57 := Tryz.underlying91
  a57 := Tryz.isAgg91
  z57 := Tryz.sizeOf91
  v57 := Tryz.zeroValue91
  t63 := Tryz.underlying216
  a63 := Tryz.isAgg216
  z63 := Tryz.sizeOf216
  v63 := Tryz.zeroValue216
  t64 := Tryz.underlying217
  a64 := Tryz.isAgg217
  z64 := Tryz.sizeOf217
  v64 := Tryz.zeroValue217 }
open Go.RowKit Go.Maps Go.Sort Go.Shelf


theorem Tryz.sorts28 (m : Nat) : AnyZ.SortsIn Tryz.prog Tryz.sorted28_ren Fence.wide m :=
  ⟨fun blk off cap ss W hH hblk hsz => callsIn_wide.2 (AnyM.slices_Sort_string Tryz.sort69 blk off cap ss W hH hblk hsz),
   fun p cap W => callsIn_wide.2 (AnyM.slices_Sort_string_none Tryz.sort69 p cap W)⟩

theorem Tryz.maps_Keys_29 (mb : Option Nat) (W : World) : CallsIn Fence.wide 5 Tryz.prog 29 #[.map mb] W fun e w' => e = .returned (.func (.func 70) #[] #[.pointer (some ⟨W.heap.size, 0, none⟩)]) ∧ w' = W.alloc (.cells #[.map mb] 49) :=
  AnyZ.keys_in Tryz.keys29 Fence.wide 5 trivial rfl mb W

set_option maxHeartbeats 1000000 in
theorem Tryz.slices_Sorted_keys_28_29 {H : Type} (b nn : Nat) (D0 : DataW H) (R : Value → Option (DataW H × List MemPlace)) (w : World) (hown : w.ownsMap Tryz.prog 9 R b nn D0) (hmax : Maps.size D0 ≤ maxLen) (hbytes : Maps.size D0 * 16 ≤ 140737488355328) :
    CallsIn Fence.wide 5 Tryz.prog 28 #[.func (.func 70) #[] #[.pointer (some ⟨w.heap.size, 0, none⟩)]] (w.alloc (.cells #[.map (some b)] 49)) fun e w' => ∃ (v : Value) (ss : List (List UInt8)), e = .returned v ∧ ss.Perm (strKeys D0) ∧
      w'.ownsRow (w.alloc (.cells #[.map (some b)] 49)).heap.size 9 1 v ss.length ((ss.mergeSort (fun x y => decide (x ≤ y))).map encStr) ∧ (v = .slice none 0 0 ↔ ss = []) ∧ Below (w.alloc (.cells #[.map (some b)] 49)).heap.size (w.alloc (.cells #[.map (some b)] 49)) w' := by
  have hbl := hown.lt
  have hseq : SeqGives Fence.wide 2 Tryz.prog 70 #[.pointer (some ⟨w.heap.size, 0, none⟩)] encStr (fun ss => ss.Perm (strKeys D0)) (Maps.size D0) (w.alloc (.cells #[.map (some b)] 49)) :=
    AnyZ.keys_gives (ρ := Tryz.keys29_ren) { Tryz.keys29 with } Fence.wide _ trivial rfl (by omega) w.heap.size b nn D0 _ (by simp) (by simp) (by
      obtain ⟨es, clock, hb, Ft, hs, hD⟩ := hown
      exact ⟨es, clock, (Below.heap_alloc _ _ b hbl).trans hb, Ft, hs, hD⟩)
  exact AnyZ.sorted_in Tryz.sorted28 Fence.wide 5 trivial trivial trivial trivial rfl (by omega) (Tryz.sorts28 _) (enters_of Tryz.func69 (by kernel_rfl) rfl) 70 #[.pointer (some ⟨w.heap.size, 0, none⟩)] trivial (enters_of Tryz.func70 (by kernel_rfl) rfl) _ _ hmax hbytes _ hseq

set_option maxHeartbeats 1000000 in
theorem Tryz.slices_Sorted_keys_nil_28_29 (w : World) :
    CallsIn Fence.wide 5 Tryz.prog 28 #[.func (.func 70) #[] #[.pointer (some ⟨w.heap.size, 0, none⟩)]] (w.alloc (.cells #[.map none] 49)) fun e w' => ∃ (v : Value) (ss : List (List UInt8)), e = .returned v ∧ ss = [] ∧
      w'.ownsRow (w.alloc (.cells #[.map none] 49)).heap.size 9 1 v ss.length ((ss.mergeSort (fun x y => decide (x ≤ y))).map encStr) ∧ (v = .slice none 0 0 ↔ ss = []) ∧ Below (w.alloc (.cells #[.map none] 49)).heap.size (w.alloc (.cells #[.map none] 49)) w' := by
  have hseq : SeqGives Fence.wide 2 Tryz.prog 70 #[.pointer (some ⟨w.heap.size, 0, none⟩)] encStr (fun ss : List (List UInt8) => ss = []) 0 (w.alloc (.cells #[.map none] 49)) :=
    AnyZ.keys_gives_nil (ρ := Tryz.keys29_ren) { Tryz.keys29 with } Fence.wide _ trivial rfl w.heap.size _ (by simp) (by simp)
  exact AnyZ.sorted_in Tryz.sorted28 Fence.wide 5 trivial trivial trivial trivial rfl (by omega) (Tryz.sorts28 _) (enters_of Tryz.func69 (by kernel_rfl) rfl) 70 #[.pointer (some ⟨w.heap.size, 0, none⟩)] trivial (enters_of Tryz.func70 (by kernel_rfl) rfl) _ 0 (Nat.zero_le _) (by omega) _ hseq



end Go.Proofs
