/- Layer 3: Parse, and the reference's. Condition: the text is at most 2^47 bytes; the library's error lies as it was laid. -/
import Derived.Test.YtgeofijddhflaaaGreatDoorQCalcSmall
import Derived.Test.YtgeofijddhflaaaGreatDoorQCalcPlain
import Derived.Test.YtgeofijddhflaaaGreatDoorQMem
import Derived.Test.YtgeofijddhflaaaGreatDoorShelfB
import Derived.Deep.DeepCutAuto
import Derived.Deep.CutBlock
import Derived.Outline
set_option linter.unusedVariables false
namespace Go.Proofs.YtgeofijddhflaaaGreatDoor
open Go.RowKit Oct
def ErrR (w : World) : Prop := ∃ tp p, w.var? Tryz.prog "strconv.ErrRange" = some #[.iface tp p]
theorem ErrR.below {w w' : World} (h : ErrR w) (hb : Below w.heap.size w w') : ErrR w' := by
 obtain ⟨tp, p, h⟩ := h
 exact ⟨tp, p, var_below h hb⟩
theorem dig_wrap (c : UInt8) : decide (((c.toNat : Int) - 48) % 256 < 10) = isD c := by
 have := c.toNat_lt
 unfold isD
 by_cases h : 48 ≤ c.toNat ∧ c.toNat ≤ 57
 ·rw [decide_eq_true h, decide_eq_true (by omega)]
 ·rw [decide_eq_false h, decide_eq_false (by omega)]
theorem digit_any (c : UInt8) (w : World) : Calls Tryz.prog 173 #[.int .u8 (c.toNat : Int)] w fun e w' => e = .returned (.bool (isD c)) ∧ w = w' := by
 have HD := Lib.hid (dig_wrap c)
 go_enter Tryz.func173, Tryz.ntmps173
 go_wp2
 go_ret
 exact ⟨by rw [← HD.out]; rfl, rfl⟩
theorem lead_len (l : List UInt8) : (lead l).length ≤ l.length := by
 unfold lead
 exact (List.takeWhile_sublist _).length_le
theorem lead_take (l : List UInt8) : lead l = l.take (lead l).length := by
 have h : lead l <+: l := List.takeWhile_prefix _
 exact List.prefix_iff_eq_take.1 h
set_option maxHeartbeats 2000000 in
set_option maxRecDepth 100000 in
theorem parse_any (s : ByteArray) (hs : s.size ≤ 140737488351232) (w : World) (hE : ErrR w) :
  Calls Tryz.prog 143 #[.string s] w fun e w' => e = .returned (.tuple #[.int .i64 (parseS s.data.toList).1, .int .i64 (parseS s.data.toList).2.1, .int .i64 (parseS s.data.toList).2.2]) ∧ Below w.heap.size w w' := by
 have HE := Lib.hid hE
 clear hE
 obtain ⟨L, hL⟩ : ∃ L, L = (lead s.data.toList).length := ⟨_, rfl⟩
 have hLs : L ≤ s.size := by
  have := lead_len s.data.toList
  rw [hL]
  simpa using this
 have HL := Lib.hid hL
 clear hL
 go_enter Tryz.func143, Tryz.ntmps143
 go_upto_block 0 with fail
 go_cut [5] (fun v wx => v = .int .i64 L ∧ wx = w)
 case first =>
  go_wp2_with fail
  go_loop [5] (fun i => ∃ k : Nat, k ≤ s.size ∧ i = .int .i64 k ∧ Hid (∀ j (hj : j < s.data.toList.length), j < k → isD s.data.toList[j] = true)) (fun i => s.size - (intOf i).toNat)
  case atStart => exact ⟨0, by omega, rfl, Lib.hid (fun j hj h => by omega)⟩
  case round =>
   obtain ⟨k, hk, rfl, hall⟩ := hrel
   by_cases hlt : k < s.size
   ·have hkl : k < s.data.toList.length := by simpa using hlt
    by_cases hd : isD s[k] = true
    ·have hall2 : Hid (∀ j (hj : j < s.data.toList.length), j < k + 1 → isD s.data.toList[j] = true) := Lib.hid fun j hj h => by
      by_cases hjk : j = k
      ·subst hjk
       exact hd
      ·exact hall.out j hj (by omega)
     have HD := Lib.hid hd
     clear hd
     go_wp2_with (go_at_call 173; refine (digit_any s[k] _).mono ?_; rintro e w1 ⟨rfl, rfl⟩; rw [HD.out])
     go_round
     case rel => exact ⟨k + 1, by omega, by go_num, hall2⟩
     case measure => simp [intOf]; omega
    ·have hd' : isD s[k] = false := by simpa using hd
     have hlead := lead_of s.data.toList k hall.out (by simpa using hk) (.inr ⟨hkl, hd'⟩)
     have hLk : L = k := by rw [HL.out, hlead, List.length_take]; simp; omega
     have HD := Lib.hid hd'
     clear hd hd' hlead
     subst hLk
     go_wp2_with (go_at_call 173; refine (digit_any s[L] _).mono ?_; rintro e w1 ⟨rfl, rfl⟩; rw [HD.out])
     go_meet
     exact ⟨rfl, rfl⟩
   ·have hks : k = s.data.toList.length := by simp; omega
    have hlead := lead_of s.data.toList k hall.out (by simpa using hk) (.inl hks)
    have hLk : L = k := by rw [HL.out, hlead, List.length_take]; simp; omega
    clear hlead hks
    subst hLk
    go_wp2
    go_meet
    exact ⟨rfl, rfl⟩
 case rest =>
  obtain ⟨rfl, rfl⟩ := hcut
  by_cases h0 : s.data.toList = []
  ·obtain rfl : s = ⟨#[]⟩ := by
    obtain ⟨⟨l⟩⟩ := s
    simp at h0
    subst h0
    rfl
   have hp : parseS [] = (0, 0, 3) := rfl
   have HP : Hid (parseS (⟨#[]⟩ : ByteArray).data.toList = (0, 0, 3)) := Lib.hid hp
   clear hp h0 HL
   go_wp2
   go_ret3
   rw [HP.out]
   exact ⟨rfl, Below.refl _ _⟩
  ·have hsz : 0 < s.size := by
    have := List.length_pos_iff.2 h0
    simpa using this
   have hne : s.toList.isEmpty = false := by
    rw [toList_eq]
    exact List.isEmpty_eq_false_iff.2 h0
   have hlt := lead_take s.data.toList
   have hex : (s.extract 0 L).data.toList = lead s.data.toList := by
    rw [Lib.extract_data, hlt, ← HL.out]
    simp
   have hh : s.data.toList.head? = some s[0] := by
    rw [List.head?_eq_getElem?, List.getElem?_eq_getElem (by simpa using hsz)]
    rfl
   by_cases h1 : L = 0
   ·have HP : Hid (parseS s.data.toList = (0, 0, 4)) := Lib.hid (by
     unfold parseS
     rw [if_neg h0, if_pos (.inl (List.eq_nil_of_length_eq_zero (by rw [← HL.out]; exact h1)))])
    subst h1
    clear HL hlt hex hh h0
    go_wp2
    go_ret3
    rw [HP.out]
    exact ⟨rfl, Below.refl _ _⟩
   ·have hl0 : lead s.data.toList ≠ [] := fun h => h1 (by rw [HL.out, h]; rfl)
    have d1 : ((L : Int) == 0) = false := beq_eq_false_iff_ne.2 (by omega)
    by_cases h2 : 1 < L ∧ s[0] = 48
    ·have HP : Hid (parseS s.data.toList = (0, 0, 4)) := Lib.hid (by
      unfold parseS
      rw [if_neg h0, if_pos (.inr ⟨by rw [← HL.out]; exact h2.1, by rw [hh, h2.2]⟩)])
     obtain ⟨h3, h4⟩ := h2
     have d2 : ((s[0].toNat : Int) == 48) = true := by rw [h4]; rfl
     have h3I : (1 : Int) < L := by omega
     clear HL hlt hex hh h0 h4 hl0
     go_wp2
     go_ret3
     rw [HP.out]
     exact ⟨rfl, Below.refl _ _⟩
    ·have hmem := lead_mem s.data.toList
     have hPI := intB (lead s.data.toList) hl0 hmem
     have hno : ¬ (lead s.data.toList = [] ∨ (1 < (lead s.data.toList).length ∧ s.data.toList.head? = some 48)) := by
      rintro (h | ⟨h, h'⟩)
      ·exact hl0 h
      ·rw [hh] at h'
       injection h' with h'
       exact h2 ⟨by rw [HL.out]; exact h, h'⟩
     have hxs : (s.extract 0 L).size ≤ 140737488351232 := by rw [ByteArray.size_extract]; omega
     have d2 : 1 < L → ((s[0].toNat : Int) == 48) = false := fun h => beq_eq_false_iff_ne.2 (fun h' => h2 ⟨h, by
      apply UInt8.toNat_inj.1
      have : (48 : UInt8).toNat = 48 := rfl
      omega⟩)
     have D2 := Lib.hid d2
     by_cases hbig : 9223372036854775807 < valD (lead s.data.toList)
     ·have HP : Hid (parseS s.data.toList = (0, 0, 20)) := Lib.hid (by
       unfold parseS
       rw [if_neg h0, if_neg hno, if_pos hbig])
      have HR : Hid (Lib.parseIntB 64 (s.extract 0 L).data.toList = .range) := Lib.hid (by rw [hex]; exact hPI.1 hbig)
      clear hPI hno hex hlt hh h0 hl0 hmem hbig h2 d2 HL
      obtain ⟨tp, pe, hvar⟩ := HE.out
      have HV := Lib.hid hvar
      clear hvar
      obtain ⟨SV, hSV⟩ : ∃ SV, SV = Lib.intSat 64 (s.extract 0 L).data.toList := ⟨_, rfl⟩
      have HC := Lib.hid (Tryz.strconv_ParseInt_10_at64_range_var (s.extract 0 L) (by omega) HR.out tp pe wc HV.out)
      rw [← hSV] at HC
      clear hSV hxs
      by_cases h5 : 1 < L
      rotate_left
      have d3 : True := trivial
      rotate_left
      have d3 := D2.out h5
      all_goals
       clear D2
       go_wp2_with fail
       refine HC.out.mono ?_
       rintro e w1 ⟨N, rfl, _, _, hb⟩
       go_wp2
       go_ret3
       rw [HP.out]
       exact ⟨rfl, hb⟩
     ·have HP : Hid (parseS s.data.toList = ((valD (lead s.data.toList) : Int), L, 0)) := Lib.hid (by
       unfold parseS
       rw [if_neg h0, if_neg hno, if_neg hbig, ← HL.out])
      have hok := hPI.2 (by omega)
      obtain ⟨V, hV⟩ : ∃ V, V = valD (lead s.data.toList) := ⟨_, rfl⟩
      rw [← hV] at hok HP
      have HC := Lib.hid (Tryz.strconv_ParseInt_10_at64_ok (s.extract 0 L) (by omega) (V : Int) (by rw [hex]; exact hok) wc)
      clear hPI hno hex hlt hh h0 hl0 hmem hbig h2 d2 HL hok hV hxs
      by_cases h5 : 1 < L
      rotate_left
      have d3 : True := trivial
      rotate_left
      have d3 := D2.out h5
      all_goals
       clear D2
       go_wp2_with fail
       refine HC.out.mono ?_
       rintro e w1 ⟨rfl, hw⟩
       have hb : Below wc.heap.size wc w1 := by
        rcases hw with rfl | ⟨t, rfl⟩
        ·exact Below.refl _ _
        ·exact Lib.bytesWorld_below _ _ _
       clear hw
       go_wp2
       go_ret3
       rw [HP.out]
       exact ⟨rfl, hb⟩
end Go.Proofs.YtgeofijddhflaaaGreatDoor
