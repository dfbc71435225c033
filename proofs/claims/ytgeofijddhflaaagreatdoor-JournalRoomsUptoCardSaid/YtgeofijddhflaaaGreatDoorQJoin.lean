/- What layer 2 answers, in plain words. No condition. -/
import Derived.Test.YtgeofijddhflaaaGreatDoorQTot
import Derived.Test.YtgeofijddhflaaaGreatDoorQSum
import Derived.Deep.DeepCutAuto
import Derived.BigQuiet
import Derived.Deep.RegionHeld3
import Derived.Laws.Externs
import Derived.Lib.MakeNoZero
set_option linter.unusedVariables false
namespace Go.Proofs.YtgeofijddhflaaaGreatDoor
open Oct
def head (p : List UInt8) : List UInt8 := enc p.length ++ p
def piece (p : List UInt8) : List UInt8 := head p ++ Crc.four (Crc.sum (head p))
def closeS (p : List UInt8) : List UInt8 := if 1048576 < p.length then [] else piece p
def closeE (p : List UInt8) : Int := if 1048576 < p.length then 2 else 0
def endS (b : List UInt8) : Nat := (takeU maxI b).2.1 + (takeU maxI b).1
def openS (b : List UInt8) : List UInt8 × Nat × Int :=
 if (takeU maxI b).2.2 ≠ 0 then ([], 0, (takeU maxI b).2.2)
 else if 1048576 < (takeU maxI b).1 then ([], 0, 2)
 else if b.length < endS b + 4 then ([], 0, 3)
 else if Crc.four (Crc.sum (b.take (endS b))) = (b.drop (endS b)).take 4 then ((b.drop (takeU maxI b).2.1).take (takeU maxI b).1, endS b + 4, 0)
 else ([], 0, 5)
def rowsF (b : List UInt8) : Nat → Nat → List (List UInt8) × Nat × Int
 | 0, a => ([], a, 0)
 | f + 1, a =>
  if b.length ≤ a then ([], a, 0)
  else if (openS (b.drop a)).2.2 = 0 then
   ((openS (b.drop a)).1 :: (rowsF b f (a + (openS (b.drop a)).2.1)).1, (rowsF b f (a + (openS (b.drop a)).2.1)).2)
  else ([], a, (openS (b.drop a)).2.2)
def rowsS (b : List UInt8) : List (List UInt8) × Nat × Int := rowsF b (b.length + 1) 0
theorem open_form {b : List UInt8} (h : (openS b).2.2 = 0) : (openS b).1.length ≤ 1048576 ∧ 5 ≤ (openS b).2.1 ∧ (openS b).2.1 ≤ b.length ∧ b.take (openS b).2.1 = piece (openS b).1 := by
 unfold openS at h ⊢
 by_cases h1 : (takeU maxI b).2.2 ≠ 0
 ·rw [if_pos h1] at h
  exact absurd h h1
 ·rw [if_neg h1] at h ⊢
  by_cases h2 : 1048576 < (takeU maxI b).1
  ·rw [if_pos h2] at h
   cases h
  ·rw [if_neg h2] at h ⊢
   by_cases h3 : b.length < endS b + 4
   ·rw [if_pos h3] at h
    cases h
   ·rw [if_neg h3] at h ⊢
    by_cases h4 : Crc.four (Crc.sum (b.take (endS b))) = (b.drop (endS b)).take 4
    ·rw [if_pos h4]
     have h1' : (takeU maxI b).2.2 = 0 := Classical.not_not.1 h1
     have hf := cnt_form (m := maxI) (l := b) h1'
     rw [← takeU_at h1'] at hf
     obtain ⟨f1, f2, f3⟩ := hf
     have f3' : b.take (takeU maxI b).2.1 = enc (takeU maxI b).1 := f3
     have hlen : ((b.drop (takeU maxI b).2.1).take (takeU maxI b).1).length = (takeU maxI b).1 := by
      unfold endS at h3
      simp
      omega
     have hh : b.take (endS b) = head ((b.drop (takeU maxI b).2.1).take (takeU maxI b).1) := by
      unfold head
      rw [hlen, ← f3']
      unfold endS
      rw [List.take_add]
     refine ⟨by simp only; rw [hlen]; omega, by simp only; unfold endS; omega, by simp only; omega, ?_⟩
     show b.take (endS b + 4) = piece _
     unfold piece
     rw [← hh, List.take_add, ← h4]
    ·rw [if_neg h4] at h
     cases h
end Go.Proofs.YtgeofijddhflaaaGreatDoor
set_option linter.unusedVariables false
namespace Go.Proofs.YtgeofijddhflaaaGreatDoor
open Go.RowKit Oct
theorem rd_lit (w : World) (e : TypeId) (xs : List Value) : Rd (w.alloc (.cells xs.toArray e)) (w.heap.size + 1) (some ⟨w.heap.size, 0, none⟩) xs := by
 intro _
 refine ⟨_, rfl, by simp, fun j u hu => ?_⟩
 rw [show (⟨w.heap.size, 0, none⟩ : Addr).add j = ⟨w.heap.size, j, none⟩ by simp [Addr.add_lit], World.cell?_alloc_at _ _ _ _ rfl]
 simpa using hu
theorem closeS_eq {p : List UInt8} (h : ¬ 1048576 < p.length) : closeS p = enc p.length ++ p ++ Crc.four (Crc.sum (enc p.length ++ p)) := if_neg h
end Go.Proofs.YtgeofijddhflaaaGreatDoor
set_option linter.unusedVariables false
namespace Go.Proofs.YtgeofijddhflaaaGreatDoor
open Go.RowKit Oct
theorem run_cut_to {P : Program} {T e : TypeId} {z : Value} {bytes : Nat} (ht : P.underlying T = some (.slice e)) (hinfo : (P.info? e).map (fun i => (i.zero, i.size, i.bytes)) = some (some z, 1, bytes)) (A : Option Addr) (len cap hi : Nat) (h1 : hi ≤ cap) (X : Int) (hX : X = (hi : Int)) (w : World) :
  (Instr.slice T (.slice A len cap) none (some (.int .i64 X)) none).run P w = .ok (.slice A hi cap) w := by
 obtain ⟨i, hi', hz, hsize, hby⟩ := info_parts hinfo
 subst hX
 rw [run_slice_h w T A len cap (by rw [ht]; simp [Program.elem, ht]) .i64 hi (by omega) (by omega)]
 have he : P.elem T = e := by simp [Program.elem, ht]
 rw [he, sizeOf_one hi' hsize]
 have hm : A.map (·.add 0) = A := by cases A <;> simp [Addr.add]
 simp [sliced, Result.andThen, hm]
end Go.Proofs.YtgeofijddhflaaaGreatDoor
set_option linter.unusedVariables false
namespace Go.Proofs.YtgeofijddhflaaaGreatDoor
open Go.RowKit Oct
set_option maxHeartbeats 2000000 in
set_option maxRecDepth 100000 in
theorem open_err (A : Option Addr) (l : List UInt8) (n c : Nat) (hn : n = l.length) (w : World) (hr : Rd w w.heap.size A (cells l)) (hlc : l.length ≤ c) (hl : l.length ≤ 140737488351232 ∧ c ≤ 9223372036854775807)
  (hbad : (takeU maxI l).2.2 ≠ 0 ∨ 1048576 < (takeU maxI l).1 ∨ l.length < endS l + 4) :
  Calls Tryz.prog 103 #[.slice A n c] w fun e w' => ∃ v, e = .returned (.tuple #[v, .int .i64 (openS l).2.1, .int .i64 (openS l).2.2]) ∧ Bs w' w.heap.size v (openS l).1 ∧ Below w.heap.size w w' := by
 subst hn
 have hle : (takeU maxI l).1 ≤ 9223372036854775807 := takeU_le maxI l
 have hu := takeU_used maxI l
 have hw1 : IntKind.i64.wrap ((l.length : Int) - ((takeU maxI l).2.1 : Nat)) = (l.length : Int) - ((takeU maxI l).2.1 : Nat) := IntWalk.i64_in _ (by omega)
 by_cases h1 : (takeU maxI l).2.2 ≠ 0
 ·have HO : Hid (openS l = ([], 0, (takeU maxI l).2.2)) := Lib.hid (if_pos h1)
  have hd : ((takeU maxI l).2.2 != 0) = true := by simpa using h1
  have hd2 : ((takeU maxI l).2.2 == 0) = false := by simpa using h1
  rw [HO.out]
  clear h1 hbad
  go_enter Tryz.func103, Tryz.ntmps103
  go_wp2_with fail
  refine (takeUint_any A l c w hr (by omega)).mono ?_
  rintro e w1 ⟨rfl, hb⟩
  go_wp2
  go_ret3
  exact ⟨_, rfl, Own.nil _ _ _, hb⟩
 ·have h1' : (takeU maxI l).2.2 = 0 := Classical.not_not.1 h1
  by_cases h2 : 1048576 < (takeU maxI l).1
  ·have HO : Hid (openS l = ([], 0, 2)) := Lib.hid (by unfold openS; rw [if_neg h1, if_pos h2])
   rw [HO.out]
   have HE := Lib.hid h1'
   clear h1 h1' hbad
   go_enter Tryz.func103, Tryz.ntmps103
   go_wp2_with fail
   refine (takeUint_any A l c w hr (by omega)).mono ?_
   rintro e w1 ⟨rfl, hb⟩
   rw [HE.out]
   go_wp2
   go_ret3
   exact ⟨_, rfl, Own.nil _ _ _, hb⟩
  ·have h3 : l.length < endS l + 4 := by
    rcases hbad with h | h | h
    ·exact absurd h h1
    ·exact absurd h h2
    ·exact h
   have HO : Hid (openS l = ([], 0, 3)) := Lib.hid (by unfold openS; rw [if_neg h1, if_neg h2, if_pos h3])
   rw [HO.out]
   have HE := Lib.hid h1'
   unfold endS at h3
   clear h1 h1' hbad
   go_enter Tryz.func103, Tryz.ntmps103
   go_wp2_with fail
   refine (takeUint_any A l c w hr (by omega)).mono ?_
   rintro e w1 ⟨rfl, hb⟩
   rw [HE.out]
   go_wp2
   go_ret3
   exact ⟨_, rfl, Own.nil _ _ _, hb⟩
theorem rd_row1 (W : World) (A : Option Addr) (X : List UInt8) (E c : Nat) (hE : E = X.length) : Rd (W.alloc (.cells #[.slice A E c] 34)) (W.alloc (.cells #[.slice A E c] 34)).heap.size (some ⟨W.heap.size, 0, none⟩) ([Row.mk A X c].map Row.val) := by
 subst hE
 exact (rd_lit W 34 [.slice A X.length c]).more (by simp)
set_option maxHeartbeats 4000000 in
set_option maxRecDepth 100000 in
theorem open_ok (A : Option Addr) (l : List UInt8) (n c : Nat) (hn : n = l.length) (w : World) (hr : Rd w w.heap.size A (cells l)) (hlc : l.length ≤ c) (hl : l.length ≤ 140737488351232 ∧ c ≤ 9223372036854775807)
  (h1 : (takeU maxI l).2.2 = 0) (h2 : ¬ 1048576 < (takeU maxI l).1) (h3 : ¬ l.length < endS l + 4) :
  Calls Tryz.prog 103 #[.slice A n c] w fun e w' => ∃ v, e = .returned (.tuple #[v, .int .i64 (openS l).2.1, .int .i64 (openS l).2.2]) ∧ Bs w' w.heap.size v (openS l).1 ∧ Below w.heap.size w w' := by
 subst hn
 have hle : (takeU maxI l).1 ≤ 9223372036854775807 := takeU_le maxI l
 have hu := takeU_used maxI l
 have HE := Lib.hid h1
 obtain ⟨E, hE⟩ : ∃ E, E = endS l := ⟨_, rfl⟩
 have hE' : E = (takeU maxI l).2.1 + (takeU maxI l).1 := hE
 have HOk : Hid (Crc.four (Crc.sum (l.take E)) = (l.drop E).take 4 → openS l = ((l.drop (takeU maxI l).2.1).take (takeU maxI l).1, E + 4, 0)) := Lib.hid fun h => by
  unfold openS
  rw [if_neg (by simpa using h1), if_neg h2, if_neg h3, ← hE, if_pos h]
 have HBad : Hid (¬ Crc.four (Crc.sum (l.take E)) = (l.drop E).take 4 → openS l = ([], 0, 5)) := Lib.hid fun h => by
  unfold openS
  rw [if_neg (by simpa using h1), if_neg h2, if_neg h3, ← hE, if_neg h]
 have hend : E + 4 ≤ l.length := by omega
 clear h1 h3 hE
 have hw1 : IntKind.i64.wrap ((l.length : Int) - ((takeU maxI l).2.1 : Nat)) = (l.length : Int) - ((takeU maxI l).2.1 : Nat) := IntWalk.i64_in _ (by omega)
 go_enter Tryz.func103, Tryz.ntmps103
 go_wp2_with fail
 refine (takeUint_any A l c w hr (by omega)).mono ?_
 rintro e w1 ⟨rfl, hb1⟩
 rw [HE.out]
 go_upto_region 9 with fail
 generalize (takeU maxI l).1 = N at hE' HOk h2 hle ⊢
 generalize (takeU maxI l).2.1 = U at hE' HOk hu ⊢
 have htk : (l.take E).length = E := by rw [List.length_take]; omega
 have hd4 : ((l.drop E).take 4).length = 4 := by simp; omega
 have hcut1 := fun W : World => run_cut_to (P := Tryz.prog) Tryz.underlying34 info_u8 A l.length c E (by omega) (E : Int) rfl W
 obtain ⟨E4, hE4⟩ : ∃ E4, E4 = E + 4 := ⟨_, rfl⟩
 have hcut2 : ∀ W : World, (Instr.slice 34 (.slice A l.length c) (some (.int .i64 (E : Int))) (some (.int .i64 (E4 : Int))) none).run Tryz.prog W = .ok (.slice (cutA A E c) 4 (c - E)) W := fun W => by
  have := run_cut (P := Tryz.prog) Tryz.underlying34 info_u8 A l.length c E E4 (by omega) (by omega) (E : Int) (E4 : Int) rfl rfl W
  rwa [hE4, Nat.add_sub_cancel_left, ← hE4] at this
 have hrE : Rd w w.heap.size A (cells (l.take E)) := by simpa [cells, List.map_take] using hr.take E
 have hr4 : Rd w w.heap.size (cutA A E c) (cells ((l.drop E).take 4)) := by
  have := (Rd.cutA hr (k := E) (cap := c) (by rw [cells_length]; omega) (by rw [cells_length]; exact hlc)).take 4
  simpa [cells, List.map_take, List.map_drop] using this
 have hb1d : Below w.heap.size w (w1.drew.alloc (.cells #[.slice A E c] 34)) := hb1.drew.alloc hb1.size _
 have hrd := rd_row1 w1.drew A (l.take E) E c htk.symm
 have hrr : RRd (w1.drew.alloc (.cells #[.slice A E c] 34)) (w1.drew.alloc (.cells #[.slice A E c] 34)).heap.size [Row.mk A (l.take E) c] := by
  intro p hp
  obtain rfl := List.mem_singleton.1 hp
  exact ⟨(hrE.below hb1d).more hb1d.size, by show (l.take E).length ≤ _; omega⟩
 have hfl : flat [Row.mk A (l.take E) c] = l.take E := by simp [flat]
 have hcutM := fun W : World => run_cut (P := Tryz.prog) Tryz.underlying34 info_u8 A l.length c U E (by omega) (by omega) (U : Int) (E : Int) rfl rfl W
 have hrU : Rd w w.heap.size (cutA A U c) (cells ((l.drop U).take N)) := by
  have := (Rd.cutA hr (k := U) (cap := c) (by rw [cells_length]; omega) (by rw [cells_length]; exact hlc)).take N
  simpa [cells, List.map_take, List.map_drop] using this
 have hMl : ((l.drop U).take N).length = E - U := by simp; omega
 have hMl2 : ((l.drop U).take N).length ≤ 140737488351232 := by omega
 have hS := Crc.sum_lt (l.take E)
 have z1 : IntKind.i64.wrap ((U : Int) + (N : Int)) = (E : Int) := by rw [show (U : Int) + N = E by omega]; exact IntWalk.i64_in _ (by omega)
 have z2 : IntKind.i64.wrap ((E : Int) + 4) = (E4 : Int) := by rw [show (E : Int) + 4 = E4 by omega]; exact IntWalk.i64_in _ (by omega)
 have Z5 : Hid ((U : Int) + (N : Int) = (E : Int)) := Lib.hid (by omega)
 generalize (l.drop U).take N = M at hrU hMl hMl2 HOk
 generalize (l.drop E).take 4 = F at hr4 hd4 HOk HBad
 have HD4 := Lib.hid hd4
 have HFL := Lib.hid hfl
 have HS := Lib.hid hS
 have HML := Lib.hid hMl
 have HE4 := Lib.hid hE4
 have HRD := Lib.hid hrd
 have HRR := Lib.hid hrr
 have HR4 := Lib.hid hr4
 have HRU := Lib.hid hrU
 have HB1 := Lib.hid hb1d
 have HEND := Lib.hid hend
 have HEE := Lib.hid hE'
 clear htk hd4 hE4 hrd hrr hfl hMl hE' hr4 hrU hrE hb1d hS hr hw1 hu hle h2 hend hlc
 go_region_held3 (fun _ => True) ((first | trivial)) (first | (go_at_call 153; refine (sum_any _ [Row.mk A (l.take E) c] 1 1 rfl _ HRD.out HRR.out (by simp)).mono ?_; rintro e w3 ⟨rfl, hb3⟩; rw [HFL.out]; have hb13 := HB1.out.trans (hb3.mono HB1.out.size)) | (go_at_call 152; refine (four_any (Crc.sum (l.take E)) _ rfl HS.out _).mono ?_; rintro e w4 ⟨v4, rfl, hov4, hb4⟩; obtain ⟨A4, c4, rfl, hc4, _, hr4⟩ := bs_shape hov4; have hb14 := hb13.trans (hb4.mono hb13.size)) | (go_at_call 151; refine (equal_any A4 (cutA A E c) (Crc.four (Crc.sum (l.take E))) F _ _ c4 (c - E) w4.heap.size (by rfl) HD4.out.symm _ hr4 ((HR4.out.below hb14).more hb14.size)).mono ?_; rintro e w5 ⟨rfl, rfl⟩))
 clear z1 z2 hcut1 hcut2 hr4 HR4 HRD HRR hb3 hb4 hov4 hb13
 generalize Crc.four (Crc.sum (l.take E)) = G at HOk HBad ⊢
 by_cases h4 : G = F
 ·rw [decide_eq_true h4]
  have HO := Lib.hid (HOk.out h4)
  have hrUd : Rd w4 w4.heap.size (cutA A U c) (cells M) := (HRU.out.below hb14).more hb14.size
  have z5 := Z5.out
  have z6 := HEND.out
  clear HOk HBad h4 HRU
  go_wp2_with fail
  refine (clone_any (cutA A U c) M (E - U) (c - U) HML.out.symm w4 hrUd hMl2).mono ?_
  rintro e w6 ⟨v6, rfl, hov6, hb6⟩
  have hb16 := hb14.trans (hb6.mono hb14.size)
  have hov6' := hov6.mono hb14.size
  clear hov6 hb6 hrUd
  go_wp2
  go_ret3
  rw [HO.out]
  exact ⟨_, rfl, hov6', hb16⟩
 ·rw [decide_eq_false h4]
  have HO := Lib.hid (HBad.out h4)
  clear HOk HBad h4 HRU
  go_wp2
  go_ret3
  rw [HO.out]
  exact ⟨_, rfl, Own.nil _ _ _, hb14⟩
theorem open_any (A : Option Addr) (l : List UInt8) (n c : Nat) (hn : n = l.length) (w : World) (hr : Rd w w.heap.size A (cells l)) (hlc : l.length ≤ c) (hl : l.length ≤ 140737488351232 ∧ c ≤ 9223372036854775807) :
  Calls Tryz.prog 103 #[.slice A n c] w fun e w' => ∃ v, e = .returned (.tuple #[v, .int .i64 (openS l).2.1, .int .i64 (openS l).2.2]) ∧ Bs w' w.heap.size v (openS l).1 ∧ Below w.heap.size w w' := by
 by_cases h1 : (takeU maxI l).2.2 ≠ 0
 ·exact open_err A l n c hn w hr hlc hl (.inl h1)
 ·by_cases h2 : 1048576 < (takeU maxI l).1
  ·exact open_err A l n c hn w hr hlc hl (.inr (.inl h2))
  ·by_cases h3 : l.length < endS l + 4
   ·exact open_err A l n c hn w hr hlc hl (.inr (.inr h3))
   ·exact open_ok A l n c hn w hr hlc hl (Classical.not_not.1 h1) h2 h3
end Go.Proofs.YtgeofijddhflaaaGreatDoor
set_option linter.unusedVariables false
namespace Go.Proofs.YtgeofijddhflaaaGreatDoor
open Go.RowKit Oct
def Held (w : World) (base : Nat) (v : Value) (l : List UInt8) : Prop := ∃ g rest, v = .slice (some ⟨g, 0, none⟩) l.length l.length ∧ base ≤ g ∧ Blk w g 5 (cells l ++ rest).toArray
theorem run_cut3 {P : Program} {T e : TypeId} {z : Value} {bytes : Nat} (ht : P.underlying T = some (.slice e)) (hinfo : (P.info? e).map (fun i => (i.zero, i.size, i.bytes)) = some (some z, 1, bytes)) (A : Option Addr) (len cap hi : Nat) (h1 : hi ≤ cap) (X : Int) (hX : X = (hi : Int)) (w : World) :
  (Instr.slice T (.slice A len cap) none (some (.int .i64 X)) (some (.int .i64 X))).run P w = .ok (.slice A hi hi) w := by
 obtain ⟨i, hi', hz, hsize, hby⟩ := info_parts hinfo
 subst hX
 rw [run_slice_hm w T A len cap (by rw [ht]; simp [Program.elem, ht]) .i64 .i64 hi hi (by omega) (by omega) (by omega)]
 have he : P.elem T = e := by simp [Program.elem, ht]
 rw [he, sizeOf_one hi' hsize]
 have hm : A.map (·.add 0) = A := by cases A <;> simp [Addr.add]
 simp [sliced, Result.andThen, hm]
theorem cutA_in {g bp T : Nat} (h : bp < T) : cutA (some ⟨g, 0, none⟩) bp T = some ⟨g, bp, none⟩ := by
 unfold cutA
 rw [if_neg (by omega)]
 simp [Addr.add_lit]
theorem splice_cells (a b : List UInt8) (r : List Value) : splice (cells a ++ r) a.length (cells b) = cells (a ++ b) ++ r.drop b.length := by
 unfold splice
 rw [cells_append, ← cells_length a, List.take_left, List.append_assoc]
 congr 2
 rw [← List.drop_drop, List.drop_left, cells_length]
theorem wpList_fill {w : World} {ops : Array Oper} {rest : List Oper} {o : Oper} {a : Act} {Q : Exit → Act → World → Prop} (hgd : o.guard = none) (d s : Operand)
  (ho : o.op = .call { callee := .builtin .copy, args := #[d, s], argTypes := #[34, 34] })
  (dp A : Option Addr) (dLen dCap n c : Nat) (hd : a.eval d = .slice dp dLen dCap) (hs : a.eval s = .slice A n c)
  (g : Nat) (acc : List UInt8) (r : List Value) (hb : Blk w g 5 (cells acc ++ r).toArray) (l : List UInt8) (hn : n = l.length) (hle : l.length ≤ dLen) (hdp : 0 < l.length → dp = some ⟨g, acc.length, none⟩) (hfit : l.length ≤ r.length)
  (B : Nat) (hr : Rd w B A (cells l)) (base : Nat) (w0 : World) (hbe : Below base w0 w) (hbg : base ≤ g)
  (h : ∀ w', Blk w' g 5 (cells (acc ++ l) ++ r.drop l.length).toArray → Below base w0 w' → wpList Tryz.prog ops Q rest (a.put o.dst (goInt l.length)) w') : wpList Tryz.prog ops Q (o :: rest) a w := by
 subst hn
 obtain ⟨i, hi, _, hsz, _⟩ := info_parts info_u8
 refine wpList_copy_splice hgd d s _ _ ho 5 Tryz.underlying34 (by rw [hi]; simp [hsz]) dp A dLen dCap l.length c hd hs g acc.length (cells acc ++ r) 5 hb (cells l) (by rw [cells_length]; exact (Nat.min_eq_left hle).symm) (fun h0 => ⟨hdp (by rw [cells_length] at h0; exact h0), ?_⟩) (by rw [cells_length, List.length_append, cells_length]; omega) (bytes_one l) base w0 hbe hbg fun w' h1 h2 => ?_
 ·obtain ⟨ad, h1, _, h3⟩ := hr h0
  exact ⟨ad, h1, h3⟩
 ·have h3 := h1.out
  rw [splice_cells] at h3
  rw [cells_length]
  exact h w' h3 h2
theorem flat_le (ps : List Row) (k : Nat) : (flat (ps.take k)).length ≤ (flat ps).length := by
 have h : flat ps = flat (ps.take k) ++ flat (ps.drop k) := by
  unfold flat
  rw [← List.flatMap_append, List.take_append_drop]
 rw [h, List.length_append]
 omega
theorem flat_one (ps : List Row) (h : 0 < ps.length) : flat (ps.take 1) = ps[0].l := by
 rw [flat_take ps 0 h]
 simp [flat]
set_option maxHeartbeats 4000000 in
set_option maxRecDepth 100000 in
theorem join_two (A : Option Addr) (ps : List Row) (n c : Nat) (hn : n = ps.length) (h2 : 2 ≤ ps.length) (w : World) (hr : Rd w w.heap.size A (ps.map Row.val)) (hp : RRd w w.heap.size ps) (hl : ps.length ≤ 140737488351232) (hf : (flat ps).length ≤ 140737488351232) (hnc : ps.length ≤ c) :
  Calls Tryz.prog 30 #[.slice A n c, .slice none 0 0] w fun e w' => ∃ v, e = .returned v ∧ Held w' w.heap.size v (flat ps) ∧ Below w.heap.size w w' := by
 subst hn
 have HP := Lib.hid hp
 clear hp
 go_enter Tryz.func30, Tryz.ntmps30
 go_wp2_with fail
 go_loop [44, 5, 7] (fun i s _ => ∃ k : Nat, k ≤ ps.length ∧ i = .int .i64 k ∧ s = .int .i64 ((flat (ps.take k)).length : Nat)) (fun i _ _ => ps.length - (intOf i).toNat)
 case atStart => exact ⟨0, by omega, rfl, rfl⟩
 case round =>
  obtain ⟨k, hk, rfl, rfl⟩ := hrel
  by_cases hlt : k < ps.length
  ·obtain ⟨ad, rfl, hbk, hcell⟩ := rd_at hr hlt
   obtain ⟨a, l, c', hrow⟩ : ∃ a l c', ps[k] = Row.mk a l c' := ⟨_, _, _, rfl⟩
   have hF := flat_take ps k hlt
   have hle := flat_le ps (k + 1)
   rw [hF, hrow, List.length_append] at hle
   have hlen : (flat (ps.take (k + 1))).length = (flat (ps.take k)).length + l.length := by rw [hF, hrow, List.length_append]
   rw [hrow] at hcell
   have hcell' : w.cell? (ad.add k) = some (.slice a l.length c') := hcell
   have hkI : (k : Int) < ps.length := by omega
   have HL := Lib.hid hlen
   replace hle : (flat (ps.take k)).length + l.length ≤ (flat ps).length := hle
   generalize (flat (ps.take k)).length = N at hle HL ⊢
   clear hrow hcell hF hlen
   go_wp2
   exact ⟨⟨k + 1, by omega, by go_num, by rw [HL.out]; go_num⟩, by simp [intOf]; omega⟩
  ·obtain rfl : k = ps.length := by omega
   rw [List.take_length]
   obtain ⟨T, hT⟩ : ∃ T, T = (flat ps).length := ⟨_, rfl⟩
   rw [← hT] at hf ⊢
   have HT := Lib.hid hT
   clear hT
   obtain ⟨cs, hrunM, hle, _⟩ := Lib.run_makeNoZero (P := Tryz.prog) w #[3] 34 5 Tryz.underlying34 T (by omega)
   have hcall : (callFunc 82 #[.int .i64 (T : Int)]).run Tryz.prog w = .ok (.value (.slice (some ⟨w.heap.size, 0, none⟩) T cs.size)) ((w.alloc (.cells cs 5)).drewN 2) := by
    rw [run_callFunc_extern Tryz.func82 (by kernel_rfl) (by kernel_rfl) (by kernel_rfl) (e := Extern.BytealgMakeNoZero.makeNoZero #[3] #[34]) (by kernel_rfl), hrunM]
    rfl
   have hcut := fun W : World => run_cut3 (P := Tryz.prog) Tryz.underlying34 info_u8 (some ⟨w.heap.size, 0, none⟩) T cs.size T hle (T : Int) rfl W
   clear hrunM
   obtain ⟨ad, rfl, hbk, hcell⟩ := rd_at hr (k := 0) (by omega)
   obtain ⟨a0, l0, c0, hrow⟩ : ∃ a l c', ps[0] = Row.mk a l c' := ⟨_, _, _, rfl⟩
   have hf1 : flat (ps.take 1) = l0 := by rw [flat_one ps (by omega), hrow]
   have hle0 := flat_le ps 1
   rw [hf1, ← HT.out] at hle0
   have hps0 := HP.out _ (List.getElem_mem (show 0 < ps.length by omega))
   rw [hrow] at hcell hps0
   have hb0 : Below w.heap.size w ((w.alloc (.cells cs 5)).drewN 2) := below_drewN ((Below.refl _ _).alloc (Nat.le_refl _) _) 2
   have hcell0 : ((w.alloc (.cells cs 5)).drewN 2).cell? (ad.add 0) = some (.slice a0 l0.length c0) := (hb0.cell (by rw [block_of_add]; exact hbk)).trans hcell
   rw [show ad.add 0 = ad by simp [Addr.add]] at hcell0
   have hblk0 : Blk ((w.alloc (.cells cs 5)).drewN 2) w.heap.size 5 (cells [] ++ cs.toList).toArray := by rw [cells_nil, List.nil_append, Array.toArray_toList]; exact (Blk.new w 5 cs).drewN 2
   have hrd0 : Rd ((w.alloc (.cells cs 5)).drewN 2) w.heap.size a0 (cells l0) := hps0.1.below hb0
   have hlI : (0 : Int) < ps.length := by omega
   have HFIT : Hid (l0.length ≤ cs.toList.length) := Lib.hid (by have := @Array.length_toList _ cs; omega)
   have HF1 := Lib.hid hf1
   have HRD0 := Lib.hid hrd0
   have HBLK0 := Lib.hid hblk0
   have HB0 := Lib.hid hb0
   clear hrow hcell hf1 hps0 hrd0 hblk0 hb0
   go_wp2_with (with_reducible refine wpList_fill rfl (.tmp 64) (.tmp 67) rfl (some ⟨w.heap.size, 0, none⟩) a0 T T l0.length c0 rfl rfl w.heap.size [] cs.toList HBLK0.out l0 rfl hle0 (fun _ => rfl) HFIT.out w.heap.size HRD0.out w.heap.size w HB0.out (Nat.le_refl _) ?_; intro w1 hblk1 hb1)
   have hcap1 : 1 ≤ c := by omega
   have hblk1' : Blk w1 w.heap.size 5 (cells (flat (ps.take 1)) ++ cs.toList.drop (flat (ps.take 1)).length).toArray := by rw [HF1.out]; simpa using hblk1
   have HS0 : Hid ((l0.length : Int) = ((flat (ps.take (0 + 1))).length : Nat)) := Lib.hid (by rw [HF1.out])
   clear hblk1 HRD0 HBLK0 HB0 hcell0 hcall hcut HF1
   go_wp2_with fail
   go_loopw [72, 9, 11] (fun i bp _ wr => ∃ k : Nat, k ≤ ps.length - 1 ∧ i = .int .i64 k ∧ bp = .int .i64 ((flat (ps.take (k + 1))).length : Nat) ∧ Blk wr w.heap.size 5 (cells (flat (ps.take (k + 1))) ++ cs.toList.drop (flat (ps.take (k + 1))).length).toArray ∧ Below w.heap.size w wr) (fun i _ _ _ => ps.length - (intOf i).toNat)
   case atStart => exact ⟨0, by omega, rfl, by rw [HS0.out], hblk1', hb1⟩
   case round =>
    obtain ⟨k, hk, rfl, rfl, hblk, hbw⟩ := hrel
    by_cases hlt : k < ps.length - 1
    ·obtain ⟨ad', had, hbk', hcell⟩ := rd_at hr (k := k + 1) (by omega)
     obtain rfl : ad = ad' := by injection had
     obtain ⟨a, l, c', hrow⟩ : ∃ a l c', ps[k + 1]'(by omega) = Row.mk a l c' := ⟨_, _, _, rfl⟩
     have hF := flat_take ps (k + 1) (by omega)
     have hle := flat_le ps (k + 1 + 1)
     rw [hF, hrow, List.length_append, ← HT.out] at hle
     replace hle : (flat (ps.take (k + 1))).length + l.length ≤ T := hle
     have hlen : (flat (ps.take (k + 1 + 1))).length = (flat (ps.take (k + 1))).length + l.length := by rw [hF, hrow, List.length_append]
     rw [hrow] at hF
     have hps := HP.out _ (List.getElem_mem (show k + 1 < ps.length by omega))
     rw [hrow] at hcell hps
     have hcell' : wr.cell? ⟨ad.block, ad.off + 1 + k, none⟩ = some (.slice a l.length c') := by
      have h1 := (hbw.cell (p := ad.add (k + 1)) (by rw [block_of_add]; exact hbk)).trans hcell
      have h2 : ad.add (k + 1) = ⟨ad.block, ad.off + 1 + k, none⟩ := by unfold Addr.add; rw [if_neg (by omega), show ad.off + (k + 1) = ad.off + 1 + k by omega]
      rw [h2] at h1
      exact h1
     have hrl : Rd wr w.heap.size a (cells l) := hps.1.below hbw
     have hkI : (k : Int) < ((ps.length - 1 : Nat) : Int) := by omega
     obtain ⟨acc, hacc⟩ : ∃ acc, acc = flat (ps.take (k + 1)) := ⟨_, rfl⟩
     rw [← hacc] at hblk hle hlen hF ⊢
     obtain ⟨N, hN⟩ : ∃ N, N = acc.length := ⟨_, rfl⟩
     have hcutf := fun W : World => run_cut_from (P := Tryz.prog) Tryz.underlying34 info_u8 (some ⟨w.heap.size, 0, none⟩) T T N (by omega) (N : Int) rfl W
     have hfit : l.length ≤ (cs.toList.drop acc.length).length := by have := @Array.length_toList _ cs; rw [List.length_drop]; omega
     have hcin : 0 < l.length → cutA (some ⟨w.heap.size, 0, none⟩) N T = some ⟨w.heap.size, acc.length, none⟩ := fun h0 => by rw [cutA_in (by omega), hN]
     have HH : Hid (flat (ps.take (k + 1 + 1)) = acc ++ l) := Lib.hid hF
     have HL : Hid (((N : Int) + l.length) = ((flat (ps.take (k + 1 + 1))).length : Nat)) := Lib.hid (by rw [hlen, hN]; omega)
     have HL2 : Hid ((flat (ps.take (k + 1 + 1))).length = acc.length + l.length) := Lib.hid hlen
     have HBLK := Lib.hid hblk
     have HRL := Lib.hid hrl
     have HFIT2 := Lib.hid hfit
     have HCIN := Lib.hid hcin
     have HBW := Lib.hid hbw
     rw [← hN] at hle ⊢
     have hle3 : l.length ≤ T - N := by omega
     clear hrow hcell hF hlen hps hN hacc hblk hrl hfit hcin hbw had hk
     obtain ⟨i5, hi5, _, hsz5, _⟩ := info_parts info_u8
     have hi5' : (Tryz.prog.info? 5).map (·.size) = some 1 := by rw [hi5]; simp [hsz5]
     clear hi5 hsz5
     go_wp2_with (first | (with_reducible refine wpList_copy_nothing rfl (.tmp 79) (.tmp 80) _ _ rfl 5 Tryz.underlying34 hi5' (cutA (some ⟨w.heap.size, 0, none⟩) N T) none (T - N) (T - N) 0 0 rfl rfl (by simp) ?_) | (with_reducible refine wpList_fill rfl (.tmp 86) (.tmp 87) rfl (cutA (some ⟨w.heap.size, 0, none⟩) N T) a (T - N) (T - N) l.length c' rfl rfl w.heap.size acc (cs.toList.drop acc.length) HBLK.out l rfl hle3 HCIN.out HFIT2.out w.heap.size HRL.out w.heap.size w HBW.out (Nat.le_refl _) ?_); intro w2 hblk2 hb2)
     go_roundw
     case rel =>
      refine ⟨k + 1, by omega, by go_num, by rw [HL.out], ?_, hb2⟩
      rw [HL2.out, HH.out, ← List.drop_drop]
      exact hblk2
     case measure => simp [intOf]; omega
    ·obtain rfl : k = ps.length - 1 := by omega
     have hfl : flat (ps.take (ps.length - 1 + 1)) = flat ps := by rw [show ps.length - 1 + 1 = ps.length by omega, List.take_length]
     rw [hfl] at hblk ⊢
     go_wp2
     go_ret
     refine ⟨_, rfl, ?_, hbw⟩
     rw [HT.out]
     exact ⟨_, _, rfl, Nat.le_refl _, hblk⟩
structure Got (w : World) (base : Nat) (v : Value) (l : List UInt8) : Prop where
 shape : ∃ A c, v = .slice A l.length c ∧ l.length ≤ c ∧ c ≤ 9223372036854775807 ∧ Rd w w.heap.size A (cells l)
 row : RowOk w base v
theorem Got.of_own {w : World} {base : Nat} {v : Value} {l : List UInt8} (h : Bs w base v l) : Got w base v l := by
 obtain ⟨A, c, h1, h2, h3, h4⟩ := bs_shape h
 exact ⟨⟨A, c, h1, h2, by omega, h4⟩, RowOk.of_own h⟩
theorem Got.of_held {w : World} {base : Nat} {v : Value} {l : List UInt8} (h : Held w base v l) (hl : l.length ≤ 9223372036854775807) : Got w base v l := by
 obtain ⟨g, rest, rfl, hb, hblk⟩ := h
 refine ⟨⟨_, _, rfl, Nat.le_refl _, hl, fun _ => ⟨_, rfl, hblk.lt, fun j u hu => ?_⟩⟩, .inr ⟨g, _, _, _, rfl, hb, hblk, by simp [cells], Nat.le_refl _, hl⟩⟩
 rw [show (⟨g, 0, none⟩ : Addr).add j = ⟨g, j, none⟩ by simp [Addr.add_lit], hblk.cell]
 have hj : j < (cells l).length := (List.getElem?_eq_some_iff.1 hu).1
 simp only [List.getElem?_toArray]
 rw [List.getElem?_append_left hj]
 exact hu
theorem Got.below {w w' : World} {base B : Nat} {v : Value} {l : List UInt8} (h : Got w base v l) (hb : Below B w w') (hB : w.heap.size ≤ B) : Got w' base v l := by
 obtain ⟨A, c, h1, h2, h3, h4⟩ := h.shape
 have hb' := hb.mono hB
 exact ⟨⟨A, c, h1, h2, h3, (h4.below hb').more hb'.size⟩, h.row.keep fun g hg => hb'.block g (h.row.lt g hg)⟩
theorem Got.mono {w : World} {base base' : Nat} {v : Value} {l : List UInt8} (h : Got w base v l) (hb : base' ≤ base) : Got w base' v l := by
 refine ⟨h.shape, ?_⟩
 rcases h.row with r | ⟨g, n, cap, cur, r, hg, x⟩
 ·exact .inl r
 ·exact .inr ⟨g, n, cap, cur, r, by omega, x⟩
set_option maxRecDepth 100000 in
theorem join_any (A : Option Addr) (ps : List Row) (n c : Nat) (hn : n = ps.length) (w : World) (hr : Rd w w.heap.size A (ps.map Row.val)) (hp : RRd w w.heap.size ps) (hl : ps.length ≤ 140737488351232) (hf : (flat ps).length ≤ 140737488351232) (hnc : ps.length ≤ c) :
  Calls Tryz.prog 30 #[.slice A n c, .slice none 0 0] w fun e w' => ∃ v, e = .returned v ∧ Got w' w.heap.size v (flat ps) ∧ Below w.heap.size w w' := by
 by_cases h2 : 2 ≤ ps.length
 ·refine (join_two A ps n c hn h2 w hr hp hl hf hnc).mono ?_
  rintro e w' ⟨v, rfl, h, hb⟩
  exact ⟨v, rfl, .of_held h (by omega), hb⟩
 subst hn
 match ps, hr, hp, hf, hnc, h2 with
 | [], hr, hp, hf, hnc, h2 =>
  clear hr hp hf hl h2
  go_enter Tryz.func30, Tryz.ntmps30
  go_wp2
  go_ret
  exact ⟨_, rfl, .of_own (own_nothing w w.heap.size _ (Nat.le_refl _)), (Below.refl _ _).alloc (Nat.le_refl _) _⟩
 | [r], hr, hp, hf, hnc, h2 =>
  obtain ⟨ad, rfl, hbk, hcell⟩ := rd_at hr (k := 0) (by simp)
  obtain ⟨a, l, c'⟩ := r
  have hps := hp _ (List.mem_singleton.2 rfl)
  have hfl : flat [Row.mk a l c'] = l := by simp [flat]
  rw [hfl] at hf ⊢
  have hcell0 : w.cell? ad = some (.slice a l.length c') := by
   rw [show ad.add 0 = ad by simp [Addr.add]] at hcell
   exact hcell
  have hrl : Rd w w.heap.size a (cells l) := hps.1
  have hc1 : 0 < c := by simp at hnc; omega
  clear hr hp hps h2 hfl hcell hnc
  go_enter Tryz.func30, Tryz.ntmps30
  go_wp2_with (at_builtin; with_reducible refine wpList_append_any rfl (.const (.slice none 0 0)) (.tmp 21) 34 rfl w.heap.size 5 (.int .u8 0) 1 Tryz.underlying34 info_u8 rfl _ [] rfl (Own.nil _ _ _) w.heap.size a l.length c' _ rfl (cells_length _).symm hrl (bytes_one _) (by unfold maxLen; simp; omega) (by simp; omega) (Nat.le_refl _) ?_; intro v1 w1 hov hg hf1)
  go_ret
  refine ⟨_, rfl, ?_, below_of_grown hg⟩
  rw [List.nil_append] at hov
  exact .of_own hov
 | _ :: _ :: _, hr, hp, hf, hnc, h2 => exact absurd (by simp) h2
end Go.Proofs.YtgeofijddhflaaaGreatDoor
set_option linter.unusedVariables false
namespace Go.Proofs.YtgeofijddhflaaaGreatDoor
open Go.RowKit Oct
theorem closeS_piece {p : List UInt8} (h : ¬ 1048576 < p.length) : closeS p = piece p := if_neg h
theorem rows_lit (W : World) (t : TypeId) (ps : List Row) (h : RRd W W.heap.size ps) : Rd (W.alloc (.cells (ps.map Row.val).toArray t)) (W.alloc (.cells (ps.map Row.val).toArray t)).heap.size (some ⟨W.heap.size, 0, none⟩) (ps.map Row.val) ∧ RRd (W.alloc (.cells (ps.map Row.val).toArray t)) (W.alloc (.cells (ps.map Row.val).toArray t)).heap.size ps := by
 refine ⟨(rd_lit W t _).more (by simp), fun p hp => ⟨?_, (h p hp).2⟩⟩
 have hb : Below W.heap.size W (W.alloc (.cells (ps.map Row.val).toArray t)) := (Below.refl _ _).alloc (Nat.le_refl _) _
 exact ((h p hp).1.below hb).more hb.size
theorem RRd.below {w w' : World} {B : Nat} {ps : List Row} (h : RRd w B ps) (hb : Below B w w') (hB : B ≤ w'.heap.size) : RRd w' w'.heap.size ps := fun p hp => ⟨((h p hp).1.below hb).more hB, (h p hp).2⟩
theorem RRd.cons {w : World} {B : Nat} {A : Option Addr} {l : List UInt8} {c : Nat} {ps : List Row} (h : Rd w B A (cells l)) (hl : l.length ≤ 4611686018427387904) (k : RRd w B ps) : RRd w B (Row.mk A l c :: ps) := by
 intro p hp
 rcases List.mem_cons.1 hp with rfl | hp
 ·exact ⟨h, hl⟩
 ·exact k p hp
theorem RRd.snoc {w : World} {B : Nat} {A : Option Addr} {l : List UInt8} {c : Nat} {ps : List Row} (k : RRd w B ps) (h : Rd w B A (cells l)) (hl : l.length ≤ 4611686018427387904) : RRd w B (ps ++ [Row.mk A l c]) := by
 intro p hp
 rcases List.mem_append.1 hp with hp | hp
 ·exact k p hp
 ·obtain rfl := List.mem_singleton.1 hp
  exact ⟨h, hl⟩
theorem RRd.nil {w : World} {B : Nat} : RRd w B [] := fun p hp => by cases hp
set_option maxHeartbeats 2000000 in
set_option maxRecDepth 100000 in
theorem close_any (A : Option Addr) (p : List UInt8) (n c : Nat) (hn : n = p.length) (w : World) (hr : Rd w w.heap.size A (cells p)) (hl : p.length ≤ 140737488351232) :
  Calls Tryz.prog 118 #[.slice A n c] w fun e w' => ∃ v, e = .returned (.tuple #[v, .int .i64 (closeE p)]) ∧ Got w' w.heap.size v (closeS p) ∧ Below w.heap.size w w' := by
 subst hn
 by_cases h0 : 1048576 < p.length
 ·have h1 : closeE p = 2 := if_pos h0
  have h2 : closeS p = [] := if_pos h0
  rw [h1, h2]
  clear h1 h2
  go_enter Tryz.func118, Tryz.ntmps118
  go_wp2
  go_ret2
  exact ⟨_, rfl, .of_own (Own.nil _ _ _), Below.refl _ _⟩
 ·have h1 : closeE p = 0 := if_neg h0
  have hel := enc_len p.length (by omega)
  have HC : Hid (closeS p = flat [Row.mk none (enc p.length) 0, Row.mk none p 0, Row.mk none (Crc.four (Crc.sum (enc p.length ++ p))) 0]) := Lib.hid (by rw [closeS_piece h0]; simp [flat, piece, head])
  rw [h1]
  clear h1
  go_enter Tryz.func118, Tryz.ntmps118
  go_wp2_with fail
  refine (uint_pos p.length w (by omega)).mono ?_
  rintro e w1 ⟨v1, rfl, hov1, hb1⟩
  obtain ⟨A1, c1, rfl, hc1, hm1, hr1⟩ := bs_shape hov1
  have hs := Crc.sum_lt (enc p.length ++ p)
  have hf4 : (Crc.four (Crc.sum (enc p.length ++ p))).length = 4 := Crc.four_length _
  have hflat : ∀ a b c, flat [Row.mk A1 (enc p.length) a, Row.mk A p b, c] = flat [Row.mk none (enc p.length) 0, Row.mk none p 0, Row.mk none c.l 0] := fun a b c => by simp [flat]
  have hsum : flat [Row.mk A1 (enc p.length) c1, Row.mk A p c] = enc p.length ++ p := by simp [flat]
  have hr0 := (hr.below hb1).more hb1.size
  have hp2 : RRd w1 w1.heap.size [Row.mk A1 (enc p.length) c1, Row.mk A p c] := .cons hr1 (by omega) (.cons hr0 (by omega) .nil)
  obtain ⟨k1, k2⟩ := rows_lit w1 34 _ hp2
  have HS := Lib.hid hs
  have H4 := Lib.hid hf4
  have HFL := Lib.hid hflat
  have HSUM := Lib.hid hsum
  have K1 := Lib.hid k1
  have K2 := Lib.hid k2
  have HP2 := Lib.hid hp2
  have hbX := (Below.refl w1.heap.size w1).alloc (Nat.le_refl _) (.cells ([Row.mk A1 (enc p.length) c1, Row.mk A p c].map Row.val).toArray 34)
  have hbA := hb1.alloc hb1.size (.cells ([Row.mk A1 (enc p.length) c1, Row.mk A p c].map Row.val).toArray 34)
  clear hs hf4 hflat hsum k1 k2 hp2 hr hr0 hr1 hov1
  go_wp2_with fail
  refine (sum_any _ [Row.mk A1 (enc p.length) c1, Row.mk A p c] 2 2 rfl _ K1.out K2.out (by simp)).mono ?_
  rintro e w2 ⟨rfl, hb2⟩
  rw [HSUM.out]
  have hb12 := hbA.trans (hb2.mono hbA.size)
  have hbX2 := hbX.trans (hb2.mono hbX.size)
  clear hb2 hbA K1 K2 hbX
  go_wp2_with fail
  refine (four_any (Crc.sum (enc p.length ++ p)) _ rfl HS.out w2).mono ?_
  rintro e w3 ⟨v3, rfl, hov3, hb3⟩
  obtain ⟨A3, c3, rfl, hc3, hm3, hr3⟩ := bs_shape hov3
  have hb13 := hb12.trans (hb3.mono hb12.size)
  have hbX3 := hbX2.trans (hb3.mono hbX2.size)
  have hp3 := HP2.out.below hbX3 hbX3.size
  generalize Crc.four (Crc.sum (enc p.length ++ p)) = F at hr3 H4 HC ⊢
  have hF : F.length ≤ 4 := by rw [H4.out]; omega
  have hp3' : RRd w3 w3.heap.size [Row.mk A1 (enc p.length) c1, Row.mk A p c, Row.mk A3 F c3] := hp3.snoc hr3 (by omega)
  obtain ⟨k1, k2⟩ := rows_lit w3 34 _ hp3'
  have K1 := Lib.hid k1
  have K2 := Lib.hid k2
  have HL3 : Hid ((flat [Row.mk A1 (enc p.length) c1, Row.mk A p c, Row.mk A3 F c3]).length ≤ 140737488351232) := Lib.hid (by simp [flat]; omega)
  have hbA := hb13.alloc hb13.size (.cells ([Row.mk A1 (enc p.length) c1, Row.mk A p c, Row.mk A3 F c3].map Row.val).toArray 34)
  clear hp3 hp3' k1 k2 hr3 hov3 hb3 hb12 hb13 hbX2 hbX3 HP2 hF
  go_wp2_with fail
  refine (join_any _ [Row.mk A1 (enc p.length) c1, Row.mk A p c, Row.mk A3 F c3] 3 3 rfl _ K1.out K2.out (by simp) HL3.out (by simp)).mono ?_
  rintro e w4 ⟨v4, rfl, hgot, hb4⟩
  rw [HFL.out, ← HC.out] at hgot
  have hb14 := hbA.trans (hb4.mono hbA.size)
  have hgot' := hgot.mono hbA.size
  clear hgot hb4 hbA K1 K2
  go_wp2
  go_ret2
  exact ⟨_, rfl, hgot', hb14⟩
end Go.Proofs.YtgeofijddhflaaaGreatDoor
