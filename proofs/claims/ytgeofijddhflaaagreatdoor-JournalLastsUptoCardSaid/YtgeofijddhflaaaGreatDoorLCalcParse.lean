/- Layer 3: Parse, and the reference's. Condition: the text is at most 2^47 bytes; the library's error lies as it was laid. -/
import Derived.Test.YtgeofijddhflaaaGreatDoorLCalcSmall
import Derived.Test.YtgeofijddhflaaaGreatDoorLHeldS
import Derived.Test.YtgeofijddhflaaaGreatDoorShelfB
import Derived.Deep.DeepCutAuto
import Derived.Deep.CutBlock
set_option linter.unusedVariables false
set_option linter.unusedSimpArgs false
set_option maxHeartbeats 8000000
set_option maxRecDepth 100000
namespace Go.Proofs.YtgeofijddhflaaaGreatDoor
open Go.RowKit Oct
def dA1 (w : World) : Prop := ∃ tp p, w.var? Tryz.prog "strconv.ErrRange" = some #[.iface tp p]
theorem dA1.below {w w' : World} (h : dA1 w) (hb : Below w.heap.size w w') : dA1 w' := by
 obtain ⟨tp, p, h⟩ := h;exact ⟨tp, p, cB8 h hb⟩
theorem dA8 (c : UInt8) : decide (((c.toNat : Int) - 48) % 256 < 10) = isD c := by
 have := c.toNat_lt;unfold isD;by_cases h : 48 <= c.toNat ∧ c.toNat <= 57
 ·rw [decide_eq_true h, decide_eq_true (by omega)]
 rw [decide_eq_false h, decide_eq_false (by omega)]
theorem bX3 (c : UInt8) (w : World) : Calls Tryz.prog 173 #[.int .u8 (c.toNat : Int)] w fun e w' => e = .returned (.bool (isD c)) ∧ w = w' := by
 have HD := qZ (dA8 c);go_enter Tryz.func173, Tryz.ntmps173
 go_wp2;go_ret
 exact ⟨by rw [<- HD.out]; rfl, rfl⟩
theorem dD1 (l : List UInt8) : (aX8 l).length <= l.length := by
 unfold aX8;exact (List.takeWhile_sublist _).length_le
theorem cW2 (l : List UInt8) : aX8 l = l.take (aX8 l).length := by
 have h : aX8 l <+: l := List.takeWhile_prefix _;exact List.prefix_iff_eq_take.1 h
theorem cX4 (s : ByteArray) (hs : s.size <= 140737488351232) (w : World) (hE : dA1 w) :
  Calls Tryz.prog 143 #[.string s] w fun e w' => e = .returned (.tuple #[.int .i64 (aF5 s.data.toList).1, .int .i64 (aF5 s.data.toList).2.1, .int .i64 (aF5 s.data.toList).2.2]) ∧ Below w.heap.size w w' := by
 have HE := qZ hE;clear hE;obtain ⟨L, hL⟩ : ∃ L, L = (aX8 s.data.toList).length := ⟨_, rfl⟩
 have j8 : L <= s.size := by
  have := dD1 s.data.toList;rw [hL]
  simpa using this
 have HL := qZ hL;clear hL;go_enter Tryz.func143, Tryz.ntmps143
 go_upto_block 0 with fail
 go_cut [5] (fun v wx => v = .int .i64 L ∧ wx = w)
 case first =>
  go_wp2_with fail
  go_loop [5] (fun i => ∃ k : Nat, k <= s.size ∧ i = .int .i64 k ∧ Hid (∀ j (hj : j < s.data.toList.length), j < k -> isD s.data.toList[j] = true)) (fun i => s.size - (intOf i).toNat)
  case atStart => exact ⟨0, by omega, rfl, qZ (fun j hj h => by omega)⟩
  obtain ⟨k, hk, rfl, a8⟩ := hrel;by_cases a9 : k < s.size
  ·have i4 : k < s.data.toList.length := by simpa using a9
   by_cases hd : isD s[k] = true
   ·have e9 : Hid (∀ j (hj : j < s.data.toList.length), j < k + 1 -> isD s.data.toList[j] = true) := qZ fun j hj h => by
     by_cases hjk : j = k
     ·subst hjk
      exact hd
     exact a8.out j hj (by omega)
    have HD := qZ hd;clear hd;go_wp2_with (go_at_call 173; refine (bX3 s[k] _).mono ?_; rintro e w1 ⟨rfl, rfl⟩; rw [HD.out])
    go_round
    case rel => exact ⟨k + 1, by omega, by go_num, e9⟩
    case measure => simp [intOf]; omega
   have g8 : isD s[k] = false := by simpa using hd
   have a7 := cW1 s.data.toList k a8.out (by simpa using hk) (.inr ⟨i4, g8⟩);have g7 : L = k := by rw [HL.out, a7, lV]; simp; omega
   have HD := qZ g8;clear hd g8 a7;subst g7;go_wp2_with (go_at_call 173; refine (bX3 s[L] _).mono ?_; rintro e w1 ⟨rfl, rfl⟩; rw [HD.out])
   go_meet;exact ⟨rfl, rfl⟩
  have i2 : k = s.data.toList.length := by simp; omega
  have a7 := cW1 s.data.toList k a8.out (by simpa using hk) (.inl i2);have g7 : L = k := by rw [HL.out, a7, lV]; simp; omega
  clear a7 i2;subst g7;go_wp2;go_meet;exact ⟨rfl, rfl⟩
 obtain ⟨rfl, rfl⟩ := hcut;by_cases h0 : s.data.toList = []
 ·obtain rfl : s = ⟨#[]⟩ := by
   obtain ⟨⟨l⟩⟩ := s;simp at h0
   subst h0
   rfl
  have hp : aF5 [] = (0, 0, 3) := rfl;have HP : Hid (aF5 (⟨#[]⟩ : ByteArray).data.toList = (0, 0, 3)) := qZ hp;clear hp h0 HL;go_wp2;go_ret3
  rw [HP.out];exact ⟨rfl, lS _ _⟩
 have i6 : 0 < s.size := by
  have := List.length_pos_iff.2 h0
  simpa using this
 have j9 : s.toList.isEmpty = false := by
  rw [toList_eq];exact List.isEmpty_eq_false_iff.2 h0
 have a9 := cW2 s.data.toList;have d8 : (s.extract 0 L).data.toList = aX8 s.data.toList := by
  rw [Lib.extract_data, a9, <- HL.out];simp
 have hh : s.data.toList.head? = some s[0] := by
  rw [List.head?_eq_getElem?, lW (by simpa using i6)]
  rfl
 by_cases h1 : L = 0
 ·have HP : Hid (aF5 s.data.toList = (0, 0, 4)) := qZ (by
   unfold aF5;rw [if_neg h0, if_pos (.inl (mD (by rw [<- HL.out]; exact h1)))])
  subst h1;clear HL a9 d8 hh h0;go_wp2;go_ret3
  rw [HP.out];exact ⟨rfl, lS _ _⟩
 have f7 : aX8 s.data.toList ≠ [] := fun h => h1 (by rw [HL.out, h]; rfl)
 have d1 : ((L : Int) == 0) = false := beq_eq_false_iff_ne.2 (by omega);by_cases h2 : 1 < L ∧ s[0] = 48
 ·have HP : Hid (aF5 s.data.toList = (0, 0, 4)) := qZ (by
   unfold aF5;rw [if_neg h0, if_pos (.inr ⟨by rw [<- HL.out]; exact h2.1, by rw [hh, h2.2]⟩)])
  obtain ⟨h3, h4⟩ := h2;have d2 : ((s[0].toNat : Int) == 48) = true := by rw [h4]; rfl
  have j6 : (1 : Int) < L := by omega
  clear HL a9 d8 hh h0 h4 f7;go_wp2;go_ret3
  rw [HP.out];exact ⟨rfl, lS _ _⟩
 have b8 := dD2 s.data.toList;have f9 := dP8 (aX8 s.data.toList) f7 b8;have g6 : ¬ (aX8 s.data.toList = [] ∨ (1 < (aX8 s.data.toList).length ∧ s.data.toList.head? = some 48)) := by
  rintro (h | ⟨h, h'⟩)
  ·exact f7 h
  rw [hh] at h';injection h' with h'
  exact h2 ⟨by rw [HL.out]; exact h, h'⟩
 have i3 : (s.extract 0 L).size <= 140737488351232 := by rw [ByteArray.size_extract]; omega
 have d2 : 1 < L -> ((s[0].toNat : Int) == 48) = false := fun h => beq_eq_false_iff_ne.2 (fun h' => h2 ⟨h, by
  apply UInt8.toNat_inj.1
  have : (48 : UInt8).toNat = 48 := rfl;omega⟩)
 have D2 := qZ d2;by_cases hbig : 9223372036854775807 < valD (aX8 s.data.toList)
 ·have HP : Hid (aF5 s.data.toList = (0, 0, 20)) := qZ (by
   unfold aF5;rw [if_neg h0, if_neg g6, if_pos hbig])
  have HR : Hid (Lib.parseIntB 64 (s.extract 0 L).data.toList = .range) := qZ (by rw [d8]; exact f9.1 hbig);clear f9 g6 d8 a9 hh h0 f7 b8 hbig h2 d2 HL;obtain ⟨tp, pe, f8⟩ := HE.out;have HV := qZ f8;clear f8;obtain ⟨SV, i1⟩ : ∃ SV, SV = Lib.intSat 64 (s.extract 0 L).data.toList := ⟨_, rfl⟩
  have HC := qZ (Tryz.strconv_ParseInt_10_at64_range_var (s.extract 0 L) (by omega) HR.out tp pe wc HV.out);rw [<- i1] at HC;clear i1 i3;by_cases h5 : 1 < L
  rotate_left
  have d3 : True := trivial;rotate_left
  have d3 := D2.out h5
  all_goals
   clear D2;go_wp2_with fail
   refine HC.out.mono ?_;rintro e w1 ⟨N, rfl, _, _, hb⟩;go_wp2;go_ret3
   rw [HP.out];exact ⟨rfl, hb⟩
 have HP : Hid (aF5 s.data.toList = ((valD (aX8 s.data.toList) : Int), L, 0)) := qZ (by
  unfold aF5;rw [if_neg h0, if_neg g6, if_neg hbig, <- HL.out])
 have g9 := f9.2 (by omega);obtain ⟨V, hV⟩ : ∃ V, V = valD (aX8 s.data.toList) := ⟨_, rfl⟩
 rw [<- hV] at g9 HP;have HC := qZ (Tryz.strconv_ParseInt_10_at64_ok (s.extract 0 L) (by omega) (V : Int) (by rw [d8]; exact g9) wc);clear f9 g6 d8 a9 hh h0 f7 b8 hbig h2 d2 HL g9 hV i3;by_cases h5 : 1 < L
 rotate_left
 have d3 : True := trivial;rotate_left
 have d3 := D2.out h5
 all_goals
  clear D2;go_wp2_with fail
  refine HC.out.mono ?_;rintro e w1 ⟨rfl, hw⟩;have hb : Below wc.heap.size wc w1 := by
   rcases hw with rfl | ⟨t, rfl⟩
   ·exact lS _ _
   exact Lib.bytesWorld_below _ _ _
  clear hw;go_wp2;go_ret3
  rw [HP.out];exact ⟨rfl, hb⟩
end Go.Proofs.YtgeofijddhflaaaGreatDoor
