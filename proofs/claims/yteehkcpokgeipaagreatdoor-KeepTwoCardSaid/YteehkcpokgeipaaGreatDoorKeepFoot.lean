/- keep: a closed piece, a file's last piece, a snapshot's file's name. Condition: what is handed in can be read. -/
import Derived.Test.YteehkcpokgeipaaGreatDoorCalcFacts
import Derived.Test.YteehkcpokgeipaaGreatDoorKeepPieces
import Derived.Laws.Concat
import Derived.Lib.ItoaLen
import Derived.Test.YteehkcpokgeipaaGreatDoorDiskP
set_option linter.unusedVariables false
namespace Go.Proofs.YteehkcpokgeipaaGreatDoor
open Go.RowKit Oct

set_option maxHeartbeats 1000000 in
theorem closed_any (A : Option Addr) (ps : List Row) (n c : Nat) (hn : n = ps.length) (w : World) (hr : Rd w w.heap.size A (ps.map Row.val)) (hp : RRd w w.heap.size ps) (hl : ps.length ≤ 140737488351232) (hf : (flat ps).length ≤ 140737488351232) (hnc : ps.length ≤ c) :
    Calls Tryz.prog 55 #[.slice A n c] w fun e w' => ∃ v, e = .returned v ∧ Got w' w.heap.size v (closeS (flat ps)) ∧ Below w.heap.size w w' := by
  have HJ := Lib.hid (join_any A ps n c hn w hr hp hl hf hnc)
  clear hr hp hn
  go_enter Tryz.func55, Tryz.ntmps55
  go_wp2_with fail
  refine HJ.out.mono ?_
  rintro e w1 ⟨v, rfl, hg, hb⟩
  obtain ⟨A1, c1, rfl, h1, h2, h3⟩ := hg.shape
  have HC := Lib.hid (close_any A1 (flat ps) _ c1 rfl w1 h3 hf)
  have HB := Lib.hid hb
  clear hg hb h3 HJ
  go_wp2_with fail
  refine HC.out.mono ?_
  rintro e w2 ⟨v2, rfl, hg2, hb2⟩
  obtain ⟨A2, c2, rfl, _, _, _⟩ := hg2.shape
  have hs := HB.out.size
  have HG := Lib.hid (And.intro (hg2.mono hs) (HB.out.trans (hb2.mono hs)))
  clear hg2 hb2 HC
  go_wp2_with fail
  go_ret
  exact ⟨_, rfl, HG.out.1, HG.out.2⟩
def footS (many : Nat) (l : List UInt8) : List UInt8 := closeS (enc many ++ enc (Crc.sum l))
set_option maxHeartbeats 2000000 in
theorem foot_any (many : Nat) (hm : many ≤ 1000000000) (A : Option Addr) (l : List UInt8) (c : Nat) (w : World) (hr : Rd w w.heap.size A (cells l)) (hl : l.length ≤ 1099511627776) :
    Calls Tryz.prog 56 #[.int .i64 many, .slice A l.length c] w fun e w' => ∃ v, e = .returned v ∧ Got w' w.heap.size v (footS many l) ∧ Below w.heap.size w w' := by
  have HU := Lib.hid (uint_tot (many : Int) (by omega) w)
  have HR := Lib.hid hr
  clear hr
  go_enter Tryz.func56, Tryz.ntmps56
  go_wp2_with fail
  refine HU.out.mono ?_
  rintro e w1 ⟨v1, rfl, hv1, hb1⟩
  obtain ⟨A1, c1, rfl, k1, k2, k3⟩ := bs_shape hv1
  go_wp2_with fail
  have hbA : Below w1.heap.size w1 (w1.alloc (.cells [Row.val ⟨A, l, c⟩].toArray 27)) := (Below.refl _ w1).alloc (Nat.le_refl _) _
  have hs1 := hb1.size
  have hrA : Rd (w1.alloc (.cells [Row.val ⟨A, l, c⟩].toArray 27)) (w1.alloc (.cells [Row.val ⟨A, l, c⟩].toArray 27)).heap.size (some ⟨w1.heap.size, 0, none⟩) [Row.val ⟨A, l, c⟩] := (rd_lit w1 27 [Row.val ⟨A, l, c⟩]).more (by simp)
  have hpA : RRd (w1.alloc (.cells [Row.val ⟨A, l, c⟩].toArray 27)) (w1.alloc (.cells [Row.val ⟨A, l, c⟩].toArray 27)).heap.size [⟨A, l, c⟩] := fun p hp => by
    obtain rfl := List.mem_singleton.1 hp
    exact ⟨((HR.out.below hb1).more hs1 |>.below hbA).more hbA.size, by show l.length ≤ _; omega⟩
  have HS := Lib.hid (sum_any (some ⟨w1.heap.size, 0, none⟩) [⟨A, l, c⟩] 1 1 rfl _ hrA hpA (by simp))
  have hflat : flat [⟨A, l, c⟩] = l := by simp [flat]
  rw [hflat] at HS
  have HV1 := Lib.hid (hv1.below hbA (Nat.le_refl _))
  have HB1 := Lib.hid (hb1.trans (hbA.mono hs1))
  have hsA := hbA.size
  have e1 : encI (many : Int) = enc many := by unfold encI; rw [if_neg (by omega)]; rfl
  rw [e1] at k1 ⊢
  rw [e1] at HV1
  have hcs : Crc.sum l < 4294967296 := Crc.sum_lt l
  clear hrA hpA hv1 hb1 hbA hflat k3 e1
  refine HS.out.mono ?_
  rintro e w2 ⟨rfl, hb2⟩
  have hs2 := hb2.size
  have HV2 := Lib.hid (Own.below HV1.out hb2 (Nat.le_refl _))
  have HB2 := Lib.hid (HB1.out.trans (hb2.mono (by omega)))
  obtain ⟨cs, hcse⟩ : ∃ cs, cs = Crc.sum l := ⟨_, rfl⟩
  rw [← hcse] at hcs ⊢
  have HCS := Lib.hid hcse
  have HU2 := Lib.hid (uint_tot (cs : Int) (by omega) w2)
  clear hb2 HV1 HB1 HS HU hcse
  go_wp2_with fail
  refine HU2.out.mono ?_
  rintro e w3 ⟨v3, rfl, hv3, hb3⟩
  have e2 : encI (cs : Int) = enc cs := by unfold encI; rw [if_neg (by omega)]; rfl
  rw [e2] at hv3
  obtain ⟨A3, c3, rfl, j1, j2, j3⟩ := bs_shape hv3
  have hs3 := hb3.size
  obtain ⟨_, _, q1, q2, q3, q4⟩ := bs_shape (Own.below HV2.out hb3 (Nat.le_refl _))
  injection q1 with q1 _ q1'
  subst q1 q1'
  have hbB : Below w3.heap.size w3 (w3.alloc (.cells [Row.val ⟨A1, enc many, c1⟩, Row.val ⟨A3, enc cs, c3⟩].toArray 27)) := (Below.refl _ w3).alloc (Nat.le_refl _) _
  have hrB : Rd (w3.alloc (.cells [Row.val ⟨A1, enc many, c1⟩, Row.val ⟨A3, enc cs, c3⟩].toArray 27)) (w3.alloc (.cells [Row.val ⟨A1, enc many, c1⟩, Row.val ⟨A3, enc cs, c3⟩].toArray 27)).heap.size (some ⟨w3.heap.size, 0, none⟩) ([⟨A1, enc many, c1⟩, ⟨A3, enc cs, c3⟩].map Row.val) := (rd_lit w3 27 [Row.val ⟨A1, enc many, c1⟩, Row.val ⟨A3, enc cs, c3⟩]).more (by simp)
  have hl1 : (enc many).length ≤ 10 := enc_len _ (by omega)
  have hl3 : (enc cs).length ≤ 10 := enc_len _ (by omega)
  have hpB : RRd (w3.alloc (.cells [Row.val ⟨A1, enc many, c1⟩, Row.val ⟨A3, enc cs, c3⟩].toArray 27)) (w3.alloc (.cells [Row.val ⟨A1, enc many, c1⟩, Row.val ⟨A3, enc cs, c3⟩].toArray 27)).heap.size [⟨A1, enc many, c1⟩, ⟨A3, enc cs, c3⟩] := fun p hp => by
    simp only [List.mem_cons, List.not_mem_nil, or_false] at hp
    rcases hp with rfl | rfl
    · exact ⟨(q4.below hbB).more hbB.size, by show (enc many).length ≤ _; omega⟩
    · exact ⟨(j3.below hbB).more hbB.size, by show (enc cs).length ≤ _; omega⟩
  have hflat : flat [⟨A1, enc many, c1⟩, ⟨A3, enc cs, c3⟩] = enc many ++ enc cs := by simp [flat]
  have HCL := Lib.hid (closed_any (some ⟨w3.heap.size, 0, none⟩) [⟨A1, enc many, c1⟩, ⟨A3, enc cs, c3⟩] 2 2 rfl _ hrB hpB (by simp) (by rw [hflat, List.length_append]; omega) (by simp))
  rw [hflat] at HCL
  have HB3 := Lib.hid ((HB2.out.trans (hb3.mono (by omega))).trans (hbB.mono (by omega)))
  have hsB := hbB.size
  clear hrB hpB hv3 hb3 hbB hflat j3 q4 e2 HV2 HB2 HU2
  go_wp2_with fail
  refine HCL.out.mono ?_
  rintro e w4 ⟨v4, rfl, hg4, hb4⟩
  obtain ⟨A4, c4, rfl, _, _, _⟩ := hg4.shape
  have HF := Lib.hid (And.intro (hg4.mono (by omega : w.heap.size ≤ _)) (HB3.out.trans (hb4.mono (by omega))))
  clear hg4 hb4 HCL
  go_wp2_with fail
  go_ret
  refine ⟨_, rfl, ?_, HF.out.2⟩
  have h := HF.out.1
  unfold footS
  rw [← HCS.out]
  exact h
/-- The name of a snapshot's file. -/
def sName (n : Int) : Nm := 115 :: Lib.itoa n
set_option maxHeartbeats 1000000 in
theorem kname_any (n : Int) (hn : -9223372036854775808 ≤ n ∧ n ≤ 9223372036854775807) (w : World) (ht : Tab w) :
    Calls Tryz.prog 26 #[.int .i64 n] w fun e w' => e = .returned (.string (str (sName n))) ∧ Below w.heap.size w w' := by
  have HT := Lib.hid (text_str n hn w ht)
  have hsz : (str (Lib.itoa n)).size ≤ 21 := by
    have := Lib.itoa_length_le n hn.1 hn.2
    show (Lib.itoa n).toArray.size ≤ 21
    simpa using this
  clear ht hn
  go_enter Tryz.func26, Tryz.ntmps26
  go_wp2_with fail
  refine HT.out.mono ?_
  rintro e w' ⟨rfl, hb⟩
  have HB := Lib.hid hb
  clear hb HT
  go_wp2_with fail
  go_ret
  refine ⟨?_, HB.out⟩
  have e : (⟨#[115]⟩ : ByteArray) ++ str (Lib.itoa n) = str (sName n) := by
    apply WideShapes.bytes_inj
    simp [str, sName]
  rw [← e]
  rfl
theorem sName_len (n : Int) (hn : -9223372036854775808 ≤ n ∧ n ≤ 9223372036854775807) : (sName n).length ≤ 22 := by
  have := Lib.itoa_length_le n hn.1 hn.2
  unfold sName
  simp
  omega
end Go.Proofs.YteehkcpokgeipaaGreatDoor
