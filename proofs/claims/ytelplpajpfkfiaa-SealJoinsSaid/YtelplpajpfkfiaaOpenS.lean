/- seal.Open. Condition: the bytes can be read, at most 2^46. -/
import Derived.Test.YtelplpajpfkfiaaROpen
import Derived.Deep.RegionHeld3
set_option linter.unusedVariables false
namespace Go.Proofs.Ytelplpajpfkfiaa
open Go.RowKit Oct

set_option maxHeartbeats 2000000 in
set_option maxRecDepth 100000 in
theorem open_err (A : Option Addr) (l : List UInt8) (n c : Nat) (hn : n = l.length) (w : World) (hr : Rd w w.heap.size A (cells l)) (hlc : l.length ≤ c) (hl : l.length ≤ 140737488351232 ∧ c ≤ 9223372036854775807)
    (hbad : (takeU maxI l).2.2 ≠ 0 ∨ 1048576 < (takeU maxI l).1 ∨ l.length < endS l + 4) :
    Calls Try.prog 44 #[.slice A n c] w fun e w' => ∃ v, e = .returned (.tuple #[v, .int .i64 (openS l).2.1, .int .i64 (openS l).2.2]) ∧ Bs w' w.heap.size v (openS l).1 ∧ Below w.heap.size w w' := by
  subst hn
  have hle : (takeU maxI l).1 ≤ 9223372036854775807 := takeU_le maxI l
  have hu := takeU_used maxI l
  have hw1 : IntKind.i64.wrap ((l.length : Int) - ((takeU maxI l).2.1 : Nat)) = (l.length : Int) - ((takeU maxI l).2.1 : Nat) := IntWalk.i64_in _ (by omega)
  by_cases h1 : (takeU maxI l).2.2 ≠ 0
  · have HO : Hid (openS l = ([], 0, (takeU maxI l).2.2)) := Lib.hid (if_pos h1)
    have hd : ((takeU maxI l).2.2 != 0) = true := by simpa using h1
    have hd2 : ((takeU maxI l).2.2 == 0) = false := by simpa using h1
    rw [HO.out]
    clear h1 hbad
    go_enter Try.func44, Try.ntmps44
    go_wp2_with fail
    refine (takeUint_any A l c w hr (by omega)).mono ?_
    rintro e w1 ⟨rfl, hb⟩
    go_wp2
    go_ret3
    exact ⟨_, rfl, Own.nil _ _ _, hb⟩
  · have h1' : (takeU maxI l).2.2 = 0 := Classical.not_not.1 h1
    by_cases h2 : 1048576 < (takeU maxI l).1
    · have HO : Hid (openS l = ([], 0, 2)) := Lib.hid (by unfold openS; rw [if_neg h1, if_pos h2])
      rw [HO.out]
      have HE := Lib.hid h1'
      clear h1 h1' hbad
      go_enter Try.func44, Try.ntmps44
      go_wp2_with fail
      refine (takeUint_any A l c w hr (by omega)).mono ?_
      rintro e w1 ⟨rfl, hb⟩
      rw [HE.out]
      go_wp2
      go_ret3
      exact ⟨_, rfl, Own.nil _ _ _, hb⟩
    · have h3 : l.length < endS l + 4 := by
        rcases hbad with h | h | h
        · exact absurd h h1
        · exact absurd h h2
        · exact h
      have HO : Hid (openS l = ([], 0, 3)) := Lib.hid (by unfold openS; rw [if_neg h1, if_neg h2, if_pos h3])
      rw [HO.out]
      have HE := Lib.hid h1'
      unfold endS at h3
      clear h1 h1' hbad
      go_enter Try.func44, Try.ntmps44
      go_wp2_with fail
      refine (takeUint_any A l c w hr (by omega)).mono ?_
      rintro e w1 ⟨rfl, hb⟩
      rw [HE.out]
      go_wp2
      go_ret3
      exact ⟨_, rfl, Own.nil _ _ _, hb⟩

theorem rd_row1 (W : World) (A : Option Addr) (X : List UInt8) (E c : Nat) (hE : E = X.length) : Rd (W.alloc (.cells #[.slice A E c] 22)) (W.alloc (.cells #[.slice A E c] 22)).heap.size (some ⟨W.heap.size, 0, none⟩) ([Row.mk A X c].map Row.val) := by
  subst hE
  exact (rd_lit W 22 [.slice A X.length c]).more (by simp)

set_option maxHeartbeats 4000000 in
set_option maxRecDepth 100000 in
theorem open_ok (A : Option Addr) (l : List UInt8) (n c : Nat) (hn : n = l.length) (w : World) (hr : Rd w w.heap.size A (cells l)) (hlc : l.length ≤ c) (hl : l.length ≤ 140737488351232 ∧ c ≤ 9223372036854775807)
    (h1 : (takeU maxI l).2.2 = 0) (h2 : ¬ 1048576 < (takeU maxI l).1) (h3 : ¬ l.length < endS l + 4) :
    Calls Try.prog 44 #[.slice A n c] w fun e w' => ∃ v, e = .returned (.tuple #[v, .int .i64 (openS l).2.1, .int .i64 (openS l).2.2]) ∧ Bs w' w.heap.size v (openS l).1 ∧ Below w.heap.size w w' := by
  subst hn
  have hle : (takeU maxI l).1 ≤ 9223372036854775807 := takeU_le maxI l
  have hu := takeU_used maxI l
  have HE := Lib.hid h1
  obtain ⟨E, hE⟩ : ∃ E, E = endS l := ⟨_, rfl⟩
  have hE' : E = (takeU maxI l).2.1 + (takeU maxI l).1 := hE
  have HOk : Hid (Crc.four (Crc.sum (l.take E)) = (l.drop E).take 4 → openS l = ((l.drop (takeU maxI l).2.1).take (takeU maxI l).1, E + 4, 0)) := Lib.hid fun h => by
    unfold openS
    rw [if_neg (by simpa using h1), if_neg h2, if_neg h3, ← hE, if_pos h]
  have HBad : Hid (¬ Crc.four (Crc.sum (l.take E)) = (l.drop E).take 4 → openS l = ([], 0, 5)) := Lib.hid fun h => by
    unfold openS
    rw [if_neg (by simpa using h1), if_neg h2, if_neg h3, ← hE, if_neg h]
  have hend : E + 4 ≤ l.length := by omega
  clear h1 h3 hE
  have hw1 : IntKind.i64.wrap ((l.length : Int) - ((takeU maxI l).2.1 : Nat)) = (l.length : Int) - ((takeU maxI l).2.1 : Nat) := IntWalk.i64_in _ (by omega)
  go_enter Try.func44, Try.ntmps44
  go_wp2_with fail
  refine (takeUint_any A l c w hr (by omega)).mono ?_
  rintro e w1 ⟨rfl, hb1⟩
  rw [HE.out]
  go_upto_region 9 with fail
  generalize (takeU maxI l).1 = N at hE' HOk h2 hle ⊢
  generalize (takeU maxI l).2.1 = U at hE' HOk hu ⊢
  have htk : (l.take E).length = E := by rw [List.length_take]; omega
  have hd4 : ((l.drop E).take 4).length = 4 := by simp; omega
  have hcut1 := fun W : World => run_cut_to (P := Try.prog) Try.underlying22 info_u8 A l.length c E (by omega) (E : Int) rfl W
  obtain ⟨E4, hE4⟩ : ∃ E4, E4 = E + 4 := ⟨_, rfl⟩
  have hcut2 : ∀ W : World, (Instr.slice 22 (.slice A l.length c) (some (.int .i64 (E : Int))) (some (.int .i64 (E4 : Int))) none).run Try.prog W = .ok (.slice (cutA A E c) 4 (c - E)) W := fun W => by
    have := run_cut (P := Try.prog) Try.underlying22 info_u8 A l.length c E E4 (by omega) (by omega) (E : Int) (E4 : Int) rfl rfl W
    rwa [hE4, Nat.add_sub_cancel_left, ← hE4] at this
  have hrE : Rd w w.heap.size A (cells (l.take E)) := by simpa [cells, List.map_take] using hr.take E
  have hr4 : Rd w w.heap.size (cutA A E c) (cells ((l.drop E).take 4)) := by
    have := (Rd.cutA hr (k := E) (cap := c) (by rw [cells_length]; omega) (by rw [cells_length]; exact hlc)).take 4
    simpa [cells, List.map_take, List.map_drop] using this
  have hb1d : Below w.heap.size w (w1.drew.alloc (.cells #[.slice A E c] 22)) := hb1.drew.alloc hb1.size _
  have hrd := rd_row1 w1.drew A (l.take E) E c htk.symm
  have hrr : RRd (w1.drew.alloc (.cells #[.slice A E c] 22)) (w1.drew.alloc (.cells #[.slice A E c] 22)).heap.size [Row.mk A (l.take E) c] := by
    intro p hp
    obtain rfl := List.mem_singleton.1 hp
    exact ⟨(hrE.below hb1d).more hb1d.size, by show (l.take E).length ≤ _; omega⟩
  have hfl : flat [Row.mk A (l.take E) c] = l.take E := by simp [flat]
  have hcutM := fun W : World => run_cut (P := Try.prog) Try.underlying22 info_u8 A l.length c U E (by omega) (by omega) (U : Int) (E : Int) rfl rfl W
  have hrU : Rd w w.heap.size (cutA A U c) (cells ((l.drop U).take N)) := by
    have := (Rd.cutA hr (k := U) (cap := c) (by rw [cells_length]; omega) (by rw [cells_length]; exact hlc)).take N
    simpa [cells, List.map_take, List.map_drop] using this
  have hMl : ((l.drop U).take N).length = E - U := by simp; omega
  have hMl2 : ((l.drop U).take N).length ≤ 140737488351232 := by omega
  have hS := Crc.sum_lt (l.take E)
  have z1 : IntKind.i64.wrap ((U : Int) + (N : Int)) = (E : Int) := by rw [show (U : Int) + N = E by omega]; exact IntWalk.i64_in _ (by omega)
  have z2 : IntKind.i64.wrap ((E : Int) + 4) = (E4 : Int) := by rw [show (E : Int) + 4 = E4 by omega]; exact IntWalk.i64_in _ (by omega)
  have Z5 : Hid ((U : Int) + (N : Int) = (E : Int)) := Lib.hid (by omega)
  generalize (l.drop U).take N = M at hrU hMl hMl2 HOk
  generalize (l.drop E).take 4 = F at hr4 hd4 HOk HBad
  have HD4 := Lib.hid hd4
  have HFL := Lib.hid hfl
  have HS := Lib.hid hS
  have HML := Lib.hid hMl
  have HE4 := Lib.hid hE4
  have HRD := Lib.hid hrd
  have HRR := Lib.hid hrr
  have HR4 := Lib.hid hr4
  have HRU := Lib.hid hrU
  have HB1 := Lib.hid hb1d
  have HEND := Lib.hid hend
  have HEE := Lib.hid hE'
  clear htk hd4 hE4 hrd hrr hfl hMl hE' hr4 hrU hrE hb1d hS hr hw1 hu hle h2 hend hlc
  go_region_held3 (fun _ => True) ((first | trivial)) (first | (go_at_call 21; refine (sum_any _ [Row.mk A (l.take E) c] 1 1 rfl _ HRD.out HRR.out (by simp)).mono ?_; rintro e w3 ⟨rfl, hb3⟩; rw [HFL.out]; have hb13 := HB1.out.trans (hb3.mono HB1.out.size)) | (go_at_call 77; refine (four_any (Crc.sum (l.take E)) _ rfl HS.out _).mono ?_; rintro e w4 ⟨v4, rfl, hov4, hb4⟩; obtain ⟨A4, c4, rfl, hc4, _, hr4⟩ := bs_shape hov4; have hb14 := hb13.trans (hb4.mono hb13.size)) | (go_at_call 78; refine (equal_any A4 (cutA A E c) (Crc.four (Crc.sum (l.take E))) F _ _ c4 (c - E) w4.heap.size (by rfl) HD4.out.symm _ hr4 ((HR4.out.below hb14).more hb14.size)).mono ?_; rintro e w5 ⟨rfl, rfl⟩))
  clear z1 z2 hcut1 hcut2 hr4 HR4 HRD HRR hb3 hb4 hov4 hb13
  generalize Crc.four (Crc.sum (l.take E)) = G at HOk HBad ⊢
  by_cases h4 : G = F
  · rw [decide_eq_true h4]
    have HO := Lib.hid (HOk.out h4)
    have hrUd : Rd w4 w4.heap.size (cutA A U c) (cells M) := (HRU.out.below hb14).more hb14.size
    have z5 := Z5.out
    have z6 := HEND.out
    clear HOk HBad h4 HRU
    go_wp2_with fail
    refine (clone_any (cutA A U c) M (E - U) (c - U) HML.out.symm w4 hrUd hMl2).mono ?_
    rintro e w6 ⟨v6, rfl, hov6, hb6⟩
    have hb16 := hb14.trans (hb6.mono hb14.size)
    have hov6' := hov6.mono hb14.size
    clear hov6 hb6 hrUd
    go_wp2
    go_ret3
    rw [HO.out]
    exact ⟨_, rfl, hov6', hb16⟩
  · rw [decide_eq_false h4]
    have HO := Lib.hid (HBad.out h4)
    clear HOk HBad h4 HRU
    go_wp2
    go_ret3
    rw [HO.out]
    exact ⟨_, rfl, Own.nil _ _ _, hb14⟩

theorem open_any (A : Option Addr) (l : List UInt8) (n c : Nat) (hn : n = l.length) (w : World) (hr : Rd w w.heap.size A (cells l)) (hlc : l.length ≤ c) (hl : l.length ≤ 140737488351232 ∧ c ≤ 9223372036854775807) :
    Calls Try.prog 44 #[.slice A n c] w fun e w' => ∃ v, e = .returned (.tuple #[v, .int .i64 (openS l).2.1, .int .i64 (openS l).2.2]) ∧ Bs w' w.heap.size v (openS l).1 ∧ Below w.heap.size w w' := by
  by_cases h1 : (takeU maxI l).2.2 ≠ 0
  · exact open_err A l n c hn w hr hlc hl (.inl h1)
  · by_cases h2 : 1048576 < (takeU maxI l).1
    · exact open_err A l n c hn w hr hlc hl (.inr (.inl h2))
    · by_cases h3 : l.length < endS l + 4
      · exact open_err A l n c hn w hr hlc hl (.inr (.inr h3))
      · exact open_ok A l n c hn w hr hlc hl (Classical.not_not.1 h1) h2 h3
end Go.Proofs.Ytelplpajpfkfiaa
