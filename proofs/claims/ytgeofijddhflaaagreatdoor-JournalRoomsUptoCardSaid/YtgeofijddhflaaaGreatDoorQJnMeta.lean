/- journal.readMeta. Condition: the disk is a call's own, up, within bounds; the journal's block is known. -/
import Derived.Test.YtgeofijddhflaaaGreatDoorQJnSeg
import Derived.Test.YtgeofijddhflaaaGreatDoorQCalcFacts
import Derived.Test.YtgeofijddhflaaaGreatDoorQJoin
import Derived.Test.YtgeofijddhflaaaGreatDoorQHeld
import Derived.Test.YtgeofijddhflaaaGreatDoorQDiskRm
import Derived.Deep.DeepMust
set_option linter.unusedVariables false
set_option linter.unusedSimpArgs false
namespace Go.Proofs.YtgeofijddhflaaaGreatDoor
open Go.RowKit Oct
theorem numsS_snoc (z : List Int) (n : Int) : numsS (z ++ [n]) = numsS z ++ enc (fold1 n) := by simp [numsS]
theorem numsS_len {z : List Int} (hz : ∀ n ∈ z, -9223372036854775808 ≤ n ∧ n ≤ 9223372036854775807) : (numsS z).length ≤ 10 * z.length := by
 induction z with
 | nil => simp [numsS]
 | cons x r ih =>
  have h1 := ih fun n hn => hz n (List.mem_cons_of_mem _ hn)
  have h2 := enc_len (fold1 x) (fold1_lt x (hz x (List.mem_cons_self ..)))
  unfold numsS at h1 ⊢
  simp only [List.map_cons, List.flatten_cons, List.length_append, List.length_cons]
  omega
set_option maxHeartbeats 2000000 in
set_option maxRecDepth 100000 in
theorem jnums_any (A : Option Addr) (z : List Int) (c : Nat) (w : World) (hr : Rd w w.heap.size A (z.map (Value.int .i64))) (hz : ∀ n ∈ z, -9223372036854775808 ≤ n ∧ n ≤ 9223372036854775807) (hl : z.length ≤ 1000000) :
  Calls Tryz.prog 68 #[.slice A z.length c] w fun e w' => ∃ v, e = .returned v ∧ Bs w' w.heap.size v (numsS z) ∧ Below w.heap.size w w' := by
 have HR := Lib.hid hr
 have HZ := Lib.hid hz
 clear hr hz
 go_enter Tryz.func68, Tryz.ntmps68
 go_wp2_with fail
 go_loopw [3, 5, 8] (fun v _ i wr => ∃ k : Nat, k ≤ z.length ∧ i = .int .i64 k ∧ Hid (Bs wr w.heap.size v (numsS (z.take k))) ∧ Hid (Below w.heap.size w wr)) (fun _ _ i _ => z.length - (intOf i).toNat)
 case atStart => exact ⟨0, by omega, rfl, Lib.hid (by show Own _ _ _ _ _; exact Own.nil _ _ _), Lib.hid (Below.refl _ _)⟩
 case round =>
  obtain ⟨k, hk, rfl, HV, HB⟩ := hrel
  have hsB := HB.out.size
  obtain ⟨Av, cv, rfl, hcv1, hcv2, _⟩ := bs_shape HV.out
  by_cases hlt : k < z.length
  ·obtain ⟨ad, rfl, had, hcell⟩ := rd_at (HR.out.below HB.out) hlt
   have hn := HZ.out _ (List.getElem_mem hlt)
   have HT : Hid (numsS (z.take (k + 1)) = numsS (z.take k) ++ enc (fold1 z[k])) := Lib.hid (by rw [List.take_succ_eq_append_getElem hlt, numsS_snoc])
   have hln := numsS_len (z := z.take k) fun n hn => HZ.out n (List.mem_of_mem_take hn)
   rw [List.length_take] at hln
   generalize z[k] = nk at hcell hn HT
   have HI := Lib.hid (int_any nk hn wr)
   have hel := enc_len (fold1 nk) (fold1_lt nk hn)
   obtain ⟨P, hP⟩ : ∃ P, P = numsS (z.take k) := ⟨_, rfl⟩
   rw [← hP] at HV HT hln hcv1 ⊢
   obtain ⟨E, hE⟩ : ∃ E, E = enc (fold1 nk) := ⟨_, rfl⟩
   rw [← hE] at HT HI hel
   have hltI : (k : Int) < (z.length : Int) := by omega
   clear hP hE hn
   go_wp2_with fail
   refine HI.out.mono ?_
   rintro e w2 ⟨v2, rfl, hv2, hb2⟩
   obtain ⟨A2, c2, rfl, _, _, hr2⟩ := bs_shape hv2
   have HR2 := Lib.hid hr2
   have HV2 := Lib.hid (Own.below HV.out hb2 (Nat.le_refl _))
   have HB2 := Lib.hid (HB.out.trans (hb2.mono hsB))
   have hs2 := HB2.out.size
   clear hv2 hb2 hr2 HI
   go_wp2_with (at_builtin; go_must (refine wpList_append_any rfl (.tmp 12) (.tmp 14) 34 rfl w.heap.size 5 (.int .u8 0) 1 Tryz.underlying34 info_u8 rfl _ _ rfl HV2.out w2.heap.size A2 E.length c2 (cells E) rfl (cells_length _).symm HR2.out (bytes_oneCell _) (by simp only [cells_length]; unfold maxLen; omega) (by simp only [cells_length]; omega) (by omega) ?_; intro v3 w3 hv3 hg3 hf3))
   have hv4 : Bs w3 w.heap.size v3 (P ++ E) := (by unfold Bs; rw [cells_append]; exact hv3)
   obtain ⟨Ao3, co3, hov3, _⟩ := bs_shape hv4
   subst hov3
   have HY3 := Lib.hid (show Bs w3 w.heap.size (.slice Ao3 (P ++ E).length co3) (numsS (z.take (k + 1))) by rw [HT.out]; exact hv4)
   have HB3 := Lib.hid (HB2.out.grown hg3 (by omega) (fun j hj => (Own.lt HV2.out j hj).1))
   clear hv3 hg3 hf3 hv4
   go_wp2_with fail
   go_roundw
   case rel => exact ⟨k + 1, by omega, by go_num, HY3, HB3⟩
   case measure => simp [intOf]; omega
  ·have hke : z.take k = z := List.take_of_length_le (by omega)
   rw [hke] at HV
   rw [hke]
   go_wp2_with fail
   go_ret
   exact ⟨_, rfl, HV.out, HB.out⟩
set_option maxHeartbeats 1000000 in
theorem jclosed_any (A : Option Addr) (ps : List Row) (n c : Nat) (hn : n = ps.length) (w : World) (hr : Rd w w.heap.size A (ps.map Row.val)) (hp : RRd w w.heap.size ps) (hl : ps.length ≤ 140737488351232) (hf : (flat ps).length ≤ 140737488351232) (hnc : ps.length ≤ c) :
  Calls Tryz.prog 67 #[.slice A n c] w fun e w' => ∃ v, e = .returned v ∧ Got w' w.heap.size v (closeS (flat ps)) ∧ Below w.heap.size w w' := by
 have HJ := Lib.hid (join_any A ps n c hn w hr hp hl hf hnc)
 clear hr hp hn
 go_enter Tryz.func67, Tryz.ntmps67
 go_wp2_with fail
 refine HJ.out.mono ?_
 rintro e w1 ⟨v, rfl, hg, hb⟩
 obtain ⟨A1, c1, rfl, h1, h2, h3⟩ := hg.shape
 have HC := Lib.hid (close_any A1 (flat ps) _ c1 rfl w1 h3 hf)
 have HB := Lib.hid hb
 clear hg hb h3 HJ
 go_wp2_with fail
 refine HC.out.mono ?_
 rintro e w2 ⟨v2, rfl, hg2, hb2⟩
 obtain ⟨A2, c2, rfl, _, _, _⟩ := hg2.shape
 have hs := HB.out.size
 have HG := Lib.hid (And.intro (hg2.mono hs) (HB.out.trans (hb2.mono hs)))
 clear hg2 hb2 HC
 go_wp2_with fail
 go_ret
 exact ⟨_, rfl, HG.out.1, HG.out.2⟩
theorem jclosed_two (A1 A2 : Option Addr) (l1 l2 : List UInt8) (c1 c2 : Nat) (w : World) (h1 : Rd w w.heap.size A1 (cells l1)) (h2 : Rd w w.heap.size A2 (cells l2)) (hl1 : l1.length ≤ 70000000) (hl2 : l2.length ≤ 70000000) :
  Calls Tryz.prog 67 #[.slice (some ⟨w.heap.size, 0, none⟩) 2 2] (w.alloc (.cells #[.slice A1 l1.length c1, .slice A2 l2.length c2] 34)) fun e w' => ∃ v, e = .returned v ∧ Got w' w.heap.size v (closeS (l1 ++ l2)) ∧ Below w.heap.size w w' := by
 have hbB : Below w.heap.size w (w.alloc (.cells [Row.val ⟨A1, l1, c1⟩, Row.val ⟨A2, l2, c2⟩].toArray 34)) := (Below.refl _ w).alloc (Nat.le_refl _) _
 have hrB : Rd (w.alloc (.cells [Row.val ⟨A1, l1, c1⟩, Row.val ⟨A2, l2, c2⟩].toArray 34)) (w.alloc (.cells [Row.val ⟨A1, l1, c1⟩, Row.val ⟨A2, l2, c2⟩].toArray 34)).heap.size (some ⟨w.heap.size, 0, none⟩) ([⟨A1, l1, c1⟩, ⟨A2, l2, c2⟩].map Row.val) := (rd_lit w 34 [Row.val ⟨A1, l1, c1⟩, Row.val ⟨A2, l2, c2⟩]).more (by simp)
 have hpB : RRd (w.alloc (.cells [Row.val ⟨A1, l1, c1⟩, Row.val ⟨A2, l2, c2⟩].toArray 34)) (w.alloc (.cells [Row.val ⟨A1, l1, c1⟩, Row.val ⟨A2, l2, c2⟩].toArray 34)).heap.size [⟨A1, l1, c1⟩, ⟨A2, l2, c2⟩] := fun p hp => by
  simp only [List.mem_cons, List.not_mem_nil, or_false] at hp
  rcases hp with rfl | rfl
  ·exact ⟨(h1.below hbB).more hbB.size, by show l1.length ≤ _; omega⟩
  ·exact ⟨(h2.below hbB).more hbB.size, by show l2.length ≤ _; omega⟩
 have hflat : flat [⟨A1, l1, c1⟩, ⟨A2, l2, c2⟩] = l1 ++ l2 := by simp [flat]
 have h := jclosed_any (some ⟨w.heap.size, 0, none⟩) [⟨A1, l1, c1⟩, ⟨A2, l2, c2⟩] 2 2 rfl _ hrB hpB (by simp) (by rw [hflat, List.length_append]; omega) (by simp)
 rw [hflat] at h
 exact h.mono fun e w' ⟨v, h1, h2, h3⟩ => ⟨v, h1, h2.mono (by simp), hbB.trans (h3.mono (by simp))⟩
set_option maxHeartbeats 1000000 in
theorem jname_any (b o : Nat) (k : Int) (hk : -9223372036854775808 ≤ k ∧ k ≤ 9223372036854775807) (w : World) (c0 : w.cell? ⟨b, o, none⟩ = some (.int .i64 k)) (ht : Tab w) :
  Calls Tryz.prog 52 #[.pointer (some ⟨b, o, none⟩)] w fun e w' => e = .returned (.string (str (jName k))) ∧ Below w.heap.size w w' := by
 have HT := Lib.hid (text_str k hk w ht)
 have hsz : (str (Lib.itoa k)).size ≤ 21 := by
  have := Lib.itoa_length_le k hk.1 hk.2
  show (Lib.itoa k).toArray.size ≤ 21
  simpa using this
 clear ht hk
 go_enter Tryz.func52, Tryz.ntmps52
 go_wp2_with fail
 refine HT.out.mono ?_
 rintro e w' ⟨rfl, hb⟩
 have HB := Lib.hid hb
 clear hb HT
 go_wp2_with fail
 go_ret
 refine ⟨?_, HB.out⟩
 have e : (⟨#[106]⟩ : ByteArray) ++ str (Lib.itoa k) = str (jName k) := by
  apply WideShapes.bytes_inj
  simp [str, jName]
 rw [← e]
 rfl
set_option maxHeartbeats 2000000 in
theorem jhead_any (b o : Nat) (f t : Int) (hf : f ≤ 9223372036854775807) (htm : -9223372036854775808 ≤ t ∧ t ≤ 9223372036854775807) (w : World) (c1 : w.cell? ⟨b, o + 1, none⟩ = some (.int .i64 f)) (c2 : w.cell? ⟨b, o + 2, none⟩ = some (.int .i64 t)) (hb : b < w.heap.size) :
  Calls Tryz.prog 63 #[.pointer (some ⟨b, o, none⟩)] w fun e w' => ∃ v, e = .returned v ∧ Got w' w.heap.size v (jHead f t) ∧ Below w.heap.size w w' := by
 have HU := Lib.hid (uint_tot f hf w)
 have HC2 := Lib.hid c2
 have HTM := Lib.hid htm
 clear c2 htm
 go_enter Tryz.func63, Tryz.ntmps63
 go_wp2_with fail
 refine HU.out.mono ?_
 rintro e w1 ⟨v1, rfl, hv1, hb1⟩
 obtain ⟨A1, c1', rfl, k1, k2, k3⟩ := bs_shape hv1
 have hs1 := hb1.size
 have c2 : w1.cell? ⟨b, o + 2, none⟩ = some (.int .i64 t) := (hb1.cell (p := ⟨b, o + 2, none⟩) hb).trans HC2.out
 have hbA : Below w1.heap.size w1 (w1.alloc (.cells #[.int .i64 t] 3)) := (Below.refl _ w1).alloc (Nat.le_refl _) _
 have HN := Lib.hid (jnums_any (some ⟨w1.heap.size, 0, none⟩) [t] 1 (w1.alloc (.cells #[.int .i64 t] 3)) ((rd_lit w1 3 [.int .i64 t]).more (by simp)) (by intro n hn; obtain rfl := List.mem_singleton.1 hn; exact HTM.out) (by simp))
 have HV1 := Lib.hid (Own.below hv1 hbA (Nat.le_refl _))
 have HB1 := Lib.hid (hb1.trans (hbA.mono hs1))
 have hsA := hbA.size
 have hel : (encI f).length ≤ 10 := by
  unfold encI
  split
  ·simp
  ·exact enc_len _ (by omega)
 clear hv1 hb1 hbA k3 HU c1
 go_wp2_with fail
 refine HN.out.mono ?_
 rintro e w2 ⟨v2, rfl, hv2, hb2⟩
 obtain ⟨A2, c2', rfl, j1, j2, j3⟩ := bs_shape hv2
 have hs2 := hb2.size
 obtain ⟨_, _, q1, q2, q3, q4⟩ := bs_shape (Own.below HV1.out hb2 (Nat.le_refl _))
 injection q1 with q1 _ q1'
 subst q1 q1'
 have hnl : (numsS [t]).length ≤ 10 := numsS_len (z := [t]) (by intro n hn; obtain rfl := List.mem_singleton.1 hn; exact HTM.out)
 have HCL := Lib.hid (jclosed_two A1 A2 (encI f) (numsS [t]) c1' c2' w2 q4 j3 (by omega) (by omega))
 have HB2 := Lib.hid (HB1.out.trans (hb2.mono (by omega)))
 clear hv2 hb2 j3 q4 HN HV1 HB1
 go_wp2_with fail
 refine HCL.out.mono ?_
 rintro e w3 ⟨v3, rfl, hg3, hb3⟩
 obtain ⟨A3, c3, rfl, _, _, _⟩ := hg3.shape
 have HF := Lib.hid (And.intro (hg3.mono (by omega : w.heap.size ≤ w2.heap.size)) (HB2.out.trans (hb3.mono (by omega))))
 clear hg3 hb3 HCL
 go_wp2_with fail
 go_ret
 exact ⟨_, rfl, HF.out.1, HF.out.2⟩
set_option maxHeartbeats 2000000 in
theorem jpiece_any (A : Option Addr) (q : EntP) (c : Nat) (w : World) (hr : Rd w w.heap.size A (cells q.b)) (hl : q.b.length ≤ 140737488351232) (htm : -9223372036854775808 ≤ q.tm ∧ q.tm ≤ 9223372036854775807) (hkd : -9223372036854775808 ≤ q.kd ∧ q.kd ≤ 9223372036854775807) :
  Calls Tryz.prog 65 #[.agg #[.int .i64 q.ix, .int .i64 q.tm, .int .i64 q.kd, .slice A q.b.length c]] w fun e w' => ∃ v, e = .returned v ∧ Got w' w.heap.size v (jPiece q) ∧ Below w.heap.size w w' := by
 obtain ⟨ix, tm, kd, l⟩ := q
 simp only at hr hl htm hkd ⊢
 obtain ⟨w0, hw0⟩ : ∃ w0, w0 = w.alloc (.cells #[.int .i64 ix, .int .i64 tm, .int .i64 kd, .slice A l.length c] 65) := ⟨_, rfl⟩
 have hb0 : Below w.heap.size w w0 := by rw [hw0]; exact (Below.refl _ w).alloc (Nat.le_refl _) _
 have hK0 : Blk w0 w.heap.size 65 #[.int .i64 ix, .int .i64 tm, .int .i64 kd, .slice A l.length c] := by rw [hw0]; exact Blk.new w 65 _
 have hs0 : w.heap.size < w0.heap.size := hK0.lt
 have hst := str_of c (hr.below hb0)
 have HT := Lib.hid (text_tot (str l) (by rw [str_size]; exact hl) w0)
 rw [str_data] at HT
 have HTM := Lib.hid (And.intro htm hkd)
 have HW0 := Lib.hid hw0
 have HB0 := Lib.hid hb0
 have HK0 := Lib.hid hK0
 have c3 : w0.cell? ⟨w.heap.size, 3, none⟩ = some (.slice A l.length c) := hK0.cell 3
 clear hr htm hkd hw0 hb0 hK0
 go_enter Tryz.func65, Tryz.ntmps65
 go_upto_region 1 with (fail)
 rw [← HW0.out]
 go_wp2_with fail
 refine HT.out.mono ?_
 rintro e w1 ⟨v1, rfl, hv1, hb1⟩
 obtain ⟨A1, c1', rfl, k1, k2, k3⟩ := bs_shape hv1
 have hs1 := hb1.size
 have hK1 := HK0.out.below hb1 hs0
 have c1 : w1.cell? ⟨w.heap.size, 1, none⟩ = some (.int .i64 tm) := hK1.cell 1
 have c2 : w1.cell? ⟨w.heap.size, 2, none⟩ = some (.int .i64 kd) := hK1.cell 2
 have hbA : Below w1.heap.size w1 (w1.alloc (.cells #[.int .i64 tm, .int .i64 kd] 3)) := (Below.refl _ w1).alloc (Nat.le_refl _) _
 have HN := Lib.hid (jnums_any (some ⟨w1.heap.size, 0, none⟩) [tm, kd] 2 (w1.alloc (.cells #[.int .i64 tm, .int .i64 kd] 3)) ((rd_lit w1 3 [.int .i64 tm, .int .i64 kd]).more (by simp)) (by
  intro n hn
  simp only [List.mem_cons, List.not_mem_nil, or_false] at hn
  rcases hn with rfl | rfl
  ·exact HTM.out.1
  ·exact HTM.out.2) (by simp))
 have HV1 := Lib.hid (Own.below hv1 hbA (Nat.le_refl _))
 have HB1 := Lib.hid ((HB0.out.trans (hb1.mono (by omega))).trans (hbA.mono (by omega)))
 have hsA := hbA.size
 have hel : (encT l).length ≤ 65545 := by
  unfold encT
  split
  ·simp
  ·have := enc_len l.length (by omega)
   rw [List.length_append]
   omega
 clear hv1 hb1 hbA k3 HT c3 hst hK1
 go_wp2_with fail
 refine HN.out.mono ?_
 rintro e w2 ⟨v2, rfl, hv2, hb2⟩
 obtain ⟨A2, c2', rfl, j1, j2, j3⟩ := bs_shape hv2
 have hs2 := hb2.size
 obtain ⟨_, _, q1, q2, q3, q4⟩ := bs_shape (Own.below HV1.out hb2 (Nat.le_refl _))
 injection q1 with q1 _ q1'
 subst q1 q1'
 have hnl : (numsS [tm, kd]).length ≤ 20 := numsS_len (z := [tm, kd]) (by
  intro n hn
  simp only [List.mem_cons, List.not_mem_nil, or_false] at hn
  rcases hn with rfl | rfl
  ·exact HTM.out.1
  ·exact HTM.out.2)
 have HCL := Lib.hid (jclosed_two A2 A1 (numsS [tm, kd]) (encT l) c2' c1' w2 j3 q4 (by omega) (by omega))
 have HB2 := Lib.hid (HB1.out.trans (hb2.mono (by omega)))
 clear hv2 hb2 j3 q4 HN HV1 HB1 c1 c2
 go_wp2_with fail
 refine HCL.out.mono ?_
 rintro e w3 ⟨v3, rfl, hg3, hb3⟩
 obtain ⟨A3, c3, rfl, _, _, _⟩ := hg3.shape
 have HF := Lib.hid (And.intro (hg3.mono (by omega : w.heap.size ≤ w2.heap.size)) (HB2.out.trans (hb3.mono (by omega))))
 clear hg3 hb3 HCL
 go_wp2_with fail
 go_ret
 exact ⟨_, rfl, HF.out.1, HF.out.2⟩
end Go.Proofs.YtgeofijddhflaaaGreatDoor
set_option linter.unusedVariables false
set_option linter.unusedSimpArgs false
namespace Go.Proofs.YtgeofijddhflaaaGreatDoor
open Go.RowKit Oct
def setAll : Array Value → Nat → List Int → Array Value
 | cs, _, [] => cs
 | cs, o, v :: r => setAll (cs.setIfInBounds o (.int .i64 v)) (o + 1) r
theorem setAll_snoc (v : Int) : ∀ (l : List Int) (cs : Array Value) (o : Nat), setAll cs o (l ++ [v]) = (setAll cs o l).setIfInBounds (o + l.length) (.int .i64 v)
 | [], cs, o => by simp [setAll]
 | x :: r, cs, o => by
  rw [List.cons_append, setAll, setAll_snoc v r, setAll, List.length_cons, show o + 1 + r.length = o + (r.length + 1) by omega]
theorem takeN_step {n : Nat} {b r : List UInt8} {vals : List Int} {k : Nat} (h : takeN n b = (vals ++ (takeN (n - k) r).1, (takeN (n - k) r).2)) (hk : k < n) (h0 : (takeU maxU r).2.2 = 0) (h1 : ¬ unfold1 (takeU maxU r).1 < 0) :
  takeN n b = ((vals ++ [unfold1 (takeU maxU r).1]) ++ (takeN (n - (k + 1)) (r.drop (takeU maxU r).2.1)).1, (takeN (n - (k + 1)) (r.drop (takeU maxU r).2.1)).2) := by
 rw [h, show n - k = (n - (k + 1)) + 1 by omega, takeN, if_neg (by rintro (e | e); exact e h0; exact h1 e)]
 simp
theorem takeN_fail {n : Nat} {b r : List UInt8} {vals : List Int} {k : Nat} (h : takeN n b = (vals ++ (takeN (n - k) r).1, (takeN (n - k) r).2)) (hk : k < n) (h0 : (takeU maxU r).2.2 ≠ 0 ∨ unfold1 (takeU maxU r).1 < 0) : (takeN n b).2 = none := by
 rw [h, show n - k = (n - (k + 1)) + 1 by omega, takeN, if_pos h0]
theorem setAll_above : ∀ (l : List Int) (cs : Array Value) (o j : Nat), o + l.length ≤ j → (setAll cs o l)[j]? = cs[j]?
 | [], cs, o, j, _ => rfl
 | x :: r, cs, o, j, h => by
  rw [List.length_cons] at h
  rw [setAll, setAll_above r _ (o + 1) j (by omega), Array.getElem?_setIfInBounds_ne (by omega)]
theorem cutA_ne {A : Option Addr} {lo cap G : Nat} (h : ∀ ad, A = some ad → ad.block ≠ G) : ∀ ad, cutA A lo cap = some ad → ad.block ≠ G := fun ad he => by
 unfold cutA at he
 split at he
 ·exact h ad he
 ·cases A with
  | none => cases he
  | some a =>
   injection he with he
   rw [← he, block_of_add]
   exact h a rfl
theorem Rd.setCell_ne {w : World} {B G j : Nat} {A : Option Addr} {xs : List Value} (h : Rd w B A xs) (hA : 0 < xs.length → ∀ ad, A = some ad → ad.block ≠ G) (u : Value) : Rd (w.setCell ⟨G, j, none⟩ u).drew B A xs := fun h0 => by
 obtain ⟨ad, e, hlt, hc⟩ := h h0
 exact ⟨ad, e, hlt, fun i v hv => (World.cell?_of_block (w := w) (Below.heap_setCell _ _ _ _ (by rw [block_of_add]; exact hA h0 ad e))).trans (hc i v hv)⟩
set_option maxHeartbeats 4000000 in
set_option maxRecDepth 100000 in
theorem jtakeNums_any (A : Option Addr) (b : List UInt8) (c : Nat) (Ap : Option Addr) (n cp G o : Nat) (T : TypeId) (cs : Array Value) (w : World) (hr : Rd w w.heap.size A (cells b)) (hA : 0 < b.length → ∀ ad, A = some ad → ad.block ≠ G) (hbc : b.length ≤ c) (hb : b.length ≤ 140737488351232) (hc : c ≤ 9223372036854775807)
  (hp : Rd w w.heap.size Ap ((List.range n).map fun i => Value.pointer (some ⟨G, o + i, none⟩))) (hAp : ∀ ad, Ap = some ad → ad.block ≠ G) (hG : Blk w G T cs) (hn : n ≤ 2) (hcs : ∀ i, i < n → ∃ u, cs[o + i]? = some u ∧ u.oneCell' = true) :
  Calls Tryz.prog 104 #[.slice A b.length c, .slice Ap n cp] w fun e w' => ∃ v, e = .returned (.tuple #[v, .bool (takeN n b).2.isSome]) ∧ w.grownBy w' (some G) ∧ (∃ vals, vals.length ≤ n ∧ Blk w' G T (setAll cs o vals) ∧ ∀ r, (takeN n b).2 = some r → vals = (takeN n b).1 ∧ vals.length = n) ∧
   (∃ Ar rr cr, v = .slice Ar (rr : List UInt8).length cr ∧ rr.length ≤ cr ∧ cr ≤ 9223372036854775807 ∧ Rd w' w'.heap.size Ar (cells rr) ∧ (takeN n b).2.getD [] = rr) := by
 have HP := Lib.hid hp
 have HG := Lib.hid hG
 have HCS := Lib.hid hcs
 have HAP := Lib.hid hAp
 have HR := Lib.hid hr
 have HA := Lib.hid hA
 clear hp hG hcs hAp hr hA
 go_enter Tryz.func104, Tryz.ntmps104
 go_wp2_with fail
 go_loopw [0, 7, 8, 9, 10, 13] (fun bv _ _ _ _ i wr => ∃ (k : Nat) (vals : List Int) (r : List UInt8) (Ar : Option Addr) (cr : Nat), k ≤ n ∧ i = .int .i64 k ∧ bv = .slice Ar r.length cr ∧ r.length ≤ cr ∧ cr ≤ 9223372036854775807 ∧ r.length ≤ b.length ∧ Hid (Rd wr wr.heap.size Ar (cells r)) ∧ Hid (0 < r.length → ∀ ad, Ar = some ad → ad.block ≠ G) ∧ Hid (vals.length = k) ∧
  Hid (takeN n b = (vals ++ (takeN (n - k) r).1, (takeN (n - k) r).2)) ∧ Hid (Blk wr G T (setAll cs o vals)) ∧ Hid (w.grownBy wr (some G))) (fun _ _ _ _ _ i _ => n - (intOf i).toNat)
 case atStart => exact ⟨0, [], b, A, c, by omega, rfl, rfl, hbc, hc, Nat.le_refl _, HR, HA, Lib.hid rfl, Lib.hid (by rw [Nat.sub_zero]; simp), HG, Lib.hid (World.grownBy.refl _ _)⟩
 case round =>
  obtain ⟨k, vals, r, Ar, cr, hk, rfl, rfl, hrc, hcr, hrb, HRr, HAr, HVL, HT, HB, HGR⟩ := hrel
  have hsz := HGR.out.size
  by_cases hlt : k < n
  ·obtain ⟨adp, hap, hab, hcp⟩ := rd_at HP.out (show k < (List.range n).length by simpa using hlt)
   rw [List.getElem_range] at hcp
   subst hap
   have hcp' : wr.cell? (adp.add k) = some (.pointer (some ⟨G, o + k, none⟩)) := (World.cell?_of_block (w := w) (by rw [block_of_add]; exact HGR.out.block adp.block hab (fun e => by injection e with e; exact HAP.out adp rfl e))).trans hcp
   have HTI := Lib.hid (takeInt_any Ar r cr wr HRr.out (by omega))
   have hltI : (k : Int) < (n : Int) := by omega
   have hun := takeU_used maxU r
   by_cases hbad : (takeU maxU r).2.2 ≠ 0 ∨ unfold1 (takeU maxU r).1 < 0
   ·have HN := Lib.hid (takeN_fail HT.out hlt hbad)
    obtain ⟨er, her⟩ : ∃ er, er = (takeU maxU r).2.2 := ⟨_, rfl⟩
    obtain ⟨nv, hnv⟩ : ∃ nv, nv = unfold1 (takeU maxU r).1 := ⟨_, rfl⟩
    obtain ⟨us, hus⟩ : ∃ us, us = (takeU maxU r).2.1 := ⟨_, rfl⟩
    rw [← her, ← hnv] at hbad
    rw [← her, ← hnv, ← hus] at HTI
    have hfin : ∀ w2 : World, Below wr.heap.size wr w2 → w.grownBy w2 (some G) ∧ (∃ vals, vals.length ≤ n ∧ Blk w2 G T (setAll cs o vals) ∧ ∀ r, (takeN n b).2 = some r → vals = (takeN n b).1 ∧ vals.length = n) ∧ (∃ Ar rr cr, (Value.slice none 0 0) = .slice Ar (rr : List UInt8).length cr ∧ rr.length ≤ cr ∧ cr ≤ 9223372036854775807 ∧ Rd w2 w2.heap.size Ar (cells rr) ∧ (takeN n b).2.getD [] = rr) := fun w2 hb2 =>
     ⟨grown_then HGR.out (grown_of_below hb2 (some G)) (.inl rfl), ⟨vals, by rw [HVL.out]; omega, HB.out.below hb2 HB.out.lt, fun r' h' => by rw [HN.out] at h'; cases h'⟩, none, [], 0, rfl, by simp, by simp, Rd.none_, by rw [HN.out]; rfl⟩
    have HFI := Lib.hid hfin
    have hz : (takeN n b).2.isSome = false := by rw [HN.out]; rfl
    have HZ := Lib.hid hz
    clear her hnv hus hcp hz hfin
    by_cases h0 : er = 0
    ·have h1 : nv < 0 := by
      rcases hbad with h | h
      ·exact absurd h0 h
      ·exact h
     subst h0
     clear hbad
     go_wp2_with fail
     refine HTI.out.mono ?_
     rintro e w2 ⟨rfl, hb2⟩
     have HB2 := Lib.hid hb2
     clear hb2 HTI
     go_wp2_with fail
     go_ret2
     exact ⟨_, by rw [HZ.out]; rfl, HFI.out w2 HB2.out⟩
    ·clear hbad
     go_wp2_with fail
     refine HTI.out.mono ?_
     rintro e w2 ⟨rfl, hb2⟩
     have HB2 := Lib.hid hb2
     clear hb2 HTI
     go_wp2_with fail
     go_ret2
     exact ⟨_, by rw [HZ.out]; rfl, HFI.out w2 HB2.out⟩
   ·obtain ⟨h0, h1⟩ : (takeU maxU r).2.2 = 0 ∧ ¬ unfold1 (takeU maxU r).1 < 0 := ⟨by
     by_cases h : (takeU maxU r).2.2 = 0
     ·exact h
     ·exact absurd (.inl h) hbad, fun h => hbad (.inr h)⟩
    have HT2 := Lib.hid (takeN_step HT.out hlt h0 h1)
    rw [h0] at HTI
    obtain ⟨nv, hnv⟩ : ∃ nv, nv = unfold1 (takeU maxU r).1 := ⟨_, rfl⟩
    obtain ⟨us, hus⟩ : ∃ us, us = (takeU maxU r).2.1 := ⟨_, rfl⟩
    rw [← hnv] at h1
    rw [← hus] at hun
    rw [← hnv, ← hus] at HTI HT2
    obtain ⟨u, hu, hu1⟩ := HCS.out k hlt
    have hget : (setAll cs o vals)[o + k]? = some u := by rw [setAll_above vals cs o (o + k) (by rw [HVL.out]; omega)]; exact hu
    have HGT := Lib.hid hget
    clear hbad h0 hnv hus hcp hu hget
    go_wp2_with fail
    refine HTI.out.mono ?_
    rintro e w2 ⟨rfl, hb2⟩
    have hB2 := HB.out.below hb2 HB.out.lt
    have g0 : w2.cell? ⟨G, o + k, none⟩ = some u := (hB2.cell (o + k)).trans HGT.out
    have gf : w2.frozen? ⟨G, o + k, none⟩ = false := hB2.frozen _
    have HB2 := Lib.hid hB2
    have HR2 := Lib.hid ((HRr.out.below hb2).more hb2.size)
    have HG2 := Lib.hid (grown_then HGR.out (grown_of_below hb2 (some G)) (.inl rfl))
    have hcut := fun W : World => run_cut_from (P := Tryz.prog) Tryz.underlying34 info_u8 Ar r.length cr us hun (us : Int) rfl W
    have hs2 := hb2.size
    clear hb2 HTI
    clear hs2
    go_wp2_with fail
    refine wp_region_heldT 7 rfl (S := fun _ => True) trivial (fun hHeld => ?_)
    refine heldT_take 0 (v := ?_) (by simp) (by kernel_rfl) (by kernel_rfl) (by kernel_rfl) (by kernel_rfl) (fun _ _ _ h => h) (Or.inl ⟨by rfl, ?_⟩) hHeld ?_
    case refine_2 => (intro w hSw; (try dsimp only at hSw); (try (obtain ⟨s0, s1, s2, s3⟩ := hSw)); simp only [List.getElem_cons_zero]; go_simp <;> with_reducible rfl)
    simp only [List.getElem_cons_zero, Act.put, List.setIfInBounds_toArray, List.set_cons_zero, List.set_cons_succ]
    refine heldT_take 1 (v := ?_) (by simp) (by kernel_rfl) (by kernel_rfl) (by kernel_rfl) (by kernel_rfl) (fun _ _ _ h => h) (Or.inl ⟨by rfl, ?_⟩) hHeld ?_
    case refine_2 => (intro w hSw; (try dsimp only at hSw); (try (obtain ⟨s0, s1, s2, s3⟩ := hSw)); simp only [List.getElem_cons_zero, List.getElem_cons_succ]; go_simp <;> with_reducible rfl)
    simp only [List.getElem_cons_zero, List.getElem_cons_succ, Act.put, List.setIfInBounds_toArray, List.set_cons_zero, List.set_cons_succ]
    refine heldT_take 2 (v := ?_) (by simp) (by kernel_rfl) (by kernel_rfl) (by kernel_rfl) (by kernel_rfl) (fun _ _ _ h => h) (Or.inl ⟨by rfl, ?_⟩) hHeld ?_
    case refine_2 => (intro w hSw; (try dsimp only at hSw); (try (obtain ⟨s0, s1, s2, s3⟩ := hSw)); simp only [List.getElem_cons_zero, List.getElem_cons_succ]; go_simp <;> with_reducible rfl)
    simp only [List.getElem_cons_zero, List.getElem_cons_succ, Act.put, List.setIfInBounds_toArray, List.set_cons_zero, List.set_cons_succ]
    refine heldT_take 3 (v := ?_) (by simp) (by kernel_rfl) (by kernel_rfl) (by kernel_rfl) (by kernel_rfl) (fun _ _ _ h => h) (Or.inl ⟨by rfl, ?_⟩) hHeld ?_
    case refine_2 => (intro w hSw; (try dsimp only at hSw); (try (obtain ⟨s0, s1, s2, s3⟩ := hSw)); simp only [List.getElem_cons_zero, List.getElem_cons_succ]; go_simp <;> with_reducible rfl)
    simp only [List.getElem_cons_zero, List.getElem_cons_succ, Act.put, List.setIfInBounds_toArray, List.set_cons_zero, List.set_cons_succ]
    refine heldT_take 4 (v := ?_) (by simp) (by kernel_rfl) (by kernel_rfl) (by kernel_rfl) (by kernel_rfl) (fun _ _ _ h => h) (Or.inl ⟨by rfl, ?_⟩) hHeld ?_
    case refine_2 => (intro w hSw; (try dsimp only at hSw); (try (obtain ⟨s0, s1, s2, s3⟩ := hSw)); simp only [List.getElem_cons_zero, List.getElem_cons_succ]; go_simp <;> with_reducible rfl)
    simp only [List.getElem_cons_zero, List.getElem_cons_succ, Act.put, List.setIfInBounds_toArray, List.set_cons_zero, List.set_cons_succ]
    refine heldT_take 5 (v := ?_) (by simp) (by kernel_rfl) (by kernel_rfl) (by kernel_rfl) (by kernel_rfl) (fun _ _ _ h => h) (Or.inl ⟨by rfl, ?_⟩) hHeld ?_
    case refine_2 => (intro w hSw; (try dsimp only at hSw); (try (obtain ⟨s0, s1, s2, s3⟩ := hSw)); simp only [List.getElem_cons_zero, List.getElem_cons_succ]; go_simp <;> with_reducible rfl)
    simp only [List.getElem_cons_zero, List.getElem_cons_succ, Act.put, List.setIfInBounds_toArray, List.set_cons_zero, List.set_cons_succ]
    refine heldT_sole 6 (by simp) (by kernel_rfl) (fun K hK => ?_)
    simp only [List.getElem_cons_zero, List.getElem_cons_succ]
    go_simp
    refine hK _ _ trivial (fun hHeld => ?_)
    clear hK K
    try simp only [Act.put, List.setIfInBounds_toArray, List.set_cons_zero, List.set_cons_succ]
    refine heldT_last (t := 7) (by simp) (by kernel_rfl) (by kernel_rfl) (fun K hK => ?_)
    simp only [List.getElem_cons_zero, List.getElem_cons_succ]
    go_simp
    refine hK _ _ ?_
    clear hK K hHeld
    have hgs : w.grownBy (w2.setCell ⟨G, o + k, none⟩ (.int .i64 nv)).drew (some G) := grown_then HG2.out ⟨rfl, rfl, rfl, (grown_setCell w2 G (o + k) (.int .i64 nv)).size, (grown_setCell w2 G (o + k) (.int .i64 nv)).block⟩ (.inl rfl)
    have hBs : Blk (w2.setCell ⟨G, o + k, none⟩ (.int .i64 nv)).drew G T (setAll cs o (vals ++ [nv])) := by
     rw [setAll_snoc, HVL.out]
     exact hB2.set_ (o + k) (.int .i64 nv)
    have hrs : Rd (w2.setCell ⟨G, o + k, none⟩ (.int .i64 nv)).drew (w2.setCell ⟨G, o + k, none⟩ (.int .i64 nv)).drew.heap.size (cutA Ar us cr) (cells (r.drop us)) := by
     have hq := Rd.cutA HR2.out (k := us) (cap := cr) (by rw [cells_length]; omega) (by rw [cells_length]; exact hrc)
     have hq2 := Rd.setCell_ne (j := o + k) hq (fun h0 => cutA_ne (HAr.out (by rw [List.length_drop, cells_length] at h0; omega))) (.int .i64 nv)
     exact (by simpa [cells, List.map_drop] using hq2 : Rd (w2.setCell ⟨G, o + k, none⟩ (.int .i64 nv)).drew w2.heap.size (cutA Ar us cr) (cells (r.drop us))).more (grown_setCell w2 G (o + k) (.int .i64 nv)).size
    have HGS := Lib.hid hgs
    have HBS := Lib.hid hBs
    have HRS := Lib.hid hrs
    clear hgs hBs hrs hB2 g0 gf HG2 HR2 hcut
    generalize (w2.setCell ⟨G, o + k, none⟩ (.int .i64 nv)).drew = w3 at HGS HBS HRS ⊢
    have hlen : r.length - us = (r.drop us).length := by rw [List.length_drop]
    rw [hlen]
    go_wp2_with fail
    go_roundw
    case rel => exact ⟨k + 1, vals ++ [nv], r.drop us, cutA Ar us cr, cr - us, by omega, by go_num, rfl, by rw [List.length_drop]; omega, by omega, by rw [List.length_drop]; omega, HRS, Lib.hid (fun h0 => cutA_ne (HAr.out (by rw [List.length_drop] at h0; omega))), Lib.hid (by rw [List.length_append, HVL.out]; rfl), HT2, HBS, HGS⟩
    case measure => simp [intOf]; omega
  ·obtain rfl : k = n := by omega
   have hfinal : (takeN k b).2 = some r ∧ (takeN k b).1 = vals := by
    rw [HT.out, Nat.sub_self]
    simp [takeN]
   have HFN := Lib.hid hfinal
   have hz : (takeN k b).2.isSome = true := by rw [hfinal.1]; rfl
   have HZ := Lib.hid hz
   clear hfinal hz
   go_wp2_with fail
   go_ret2
   exact ⟨_, by rw [HZ.out]; rfl, HGR.out, ⟨vals, by rw [HVL.out]; omega, HB.out, fun r' _ => ⟨HFN.out.2.symm, HVL.out⟩⟩, Ar, r, cr, rfl, hrc, hcr, HRr.out, by rw [HFN.out.1]; rfl⟩
end Go.Proofs.YtgeofijddhflaaaGreatDoor
set_option linter.unusedVariables false
set_option linter.unusedSimpArgs false
namespace Go.Proofs.YtgeofijddhflaaaGreatDoor
open Go.RowKit Oct
theorem takeHd_bad {p : List UInt8} (h : (takeU maxI p).2.2 ≠ 0 ∨ (takeU maxI p).1 < 1 ∨ ((takeU maxI p).1 : Int) = maxInt) : takeHd p = none := by
 unfold takeHd
 rw [if_pos h]
theorem takeHd_go {p : List UInt8} (h : ¬ ((takeU maxI p).2.2 ≠ 0 ∨ (takeU maxI p).1 < 1 ∨ ((takeU maxI p).1 : Int) = maxInt)) : takeHd p = match takeN 1 (p.drop (takeU maxI p).2.1) with
 | ([t], some []) => some ((takeU maxI p).1, t)
 | _ => none := by
 unfold takeHd
 rw [if_neg h]
 rfl
theorem set_same (cs : Array Value) (i : Nat) (v : Value) (h : cs[i]? = some v) : cs.setIfInBounds i v = cs := by
 obtain ⟨h1, h2⟩ := Array.getElem?_eq_some_iff.1 h
 apply Array.ext_getElem?
 intro j
 rw [Array.getElem?_setIfInBounds]
 split
 ·rename_i e
  subst e
  rw [h]
 ·rfl
set_option maxHeartbeats 4000000 in
set_option maxRecDepth 100000 in
theorem jtakeHead_any (A : Option Addr) (b : List UInt8) (c G : Nat) (T : TypeId) (cs : Array Value) (f0 t0 : Int) (w : World) (hr : Rd w w.heap.size A (cells b)) (hA : 0 < b.length → ∀ ad, A = some ad → ad.block ≠ G) (hbc : b.length ≤ c) (hb : b.length ≤ 140737488351232) (hc : c ≤ 9223372036854775807)
  (hG : Blk w G T cs) (h1 : cs[1]? = some (.int .i64 f0)) (h2 : cs[2]? = some (.int .i64 t0)) :
  Calls Tryz.prog 145 #[.pointer (some ⟨G, 0, none⟩), .slice A b.length c] w fun e w' => e = .returned (.bool (takeHd b).isSome) ∧ w.grownBy w' (some G) ∧ ∃ f t, Blk w' G T ((cs.setIfInBounds 2 (.int .i64 t)).setIfInBounds 1 (.int .i64 f)) ∧ ∀ q, takeHd b = some q → (f, t) = q := by
 have HG := Lib.hid hG
 have HU := Lib.hid (takeUint_any A b c w hr (by omega))
 have hsame : (cs.setIfInBounds 2 (.int .i64 t0)).setIfInBounds 1 (.int .i64 f0) = cs := by rw [set_same cs 2 _ h2, set_same cs 1 _ h1]
 have HSM := Lib.hid hsame
 have hun := takeU_used maxI b
 have hmx : (takeU maxI b).1 ≤ 9223372036854775807 := takeU_le maxI b
 by_cases hbad : (takeU maxI b).2.2 ≠ 0 ∨ (takeU maxI b).1 < 1 ∨ ((takeU maxI b).1 : Int) = maxInt
 ·have HN := Lib.hid (takeHd_bad hbad)
  obtain ⟨er, her⟩ : ∃ er, er = (takeU maxI b).2.2 := ⟨_, rfl⟩
  obtain ⟨nv, hnv⟩ : ∃ nv, nv = (takeU maxI b).1 := ⟨_, rfl⟩
  obtain ⟨us, hus⟩ : ∃ us, us = (takeU maxI b).2.1 := ⟨_, rfl⟩
  rw [← her, ← hnv] at hbad
  rw [← her, ← hnv, ← hus] at HU
  rw [← hnv] at hmx
  have hfin : ∀ w2 : World, Below w.heap.size w w2 → w.grownBy w2 (some G) ∧ ∃ f t, Blk w2 G T ((cs.setIfInBounds 2 (.int .i64 t)).setIfInBounds 1 (.int .i64 f)) ∧ ∀ q, takeHd b = some q → (f, t) = q := fun w2 hb2 =>
   ⟨grown_of_below hb2 (some G), f0, t0, by rw [HSM.out]; exact HG.out.below hb2 HG.out.lt, fun q h' => by rw [HN.out] at h'; cases h'⟩
  rw [HN.out] at hfin ⊢
  have HFI := Lib.hid hfin
  clear her hnv hus hun hfin hr hA hsame hG
  unfold maxInt at hbad
  by_cases e0 : er = 0
  ·subst e0
   by_cases e1 : nv < 1
   ·obtain rfl : nv = 0 := by omega
    clear hbad
    go_enter Tryz.func145, Tryz.ntmps145
    go_wp2_with fail
    refine HU.out.mono ?_
    rintro e w2 ⟨rfl, hb2⟩
    have HB2 := Lib.hid hb2
    clear hb2 HU
    go_wp2_with fail
    go_ret
    exact ⟨rfl, HFI.out w2 HB2.out⟩
   ·obtain rfl : nv = 9223372036854775807 := by
     rcases hbad with h | h | h
     ·exact absurd rfl h
     ·exact absurd h e1
     ·omega
    clear hbad
    go_enter Tryz.func145, Tryz.ntmps145
    go_wp2_with fail
    refine HU.out.mono ?_
    rintro e w2 ⟨rfl, hb2⟩
    have HB2 := Lib.hid hb2
    clear hb2 HU
    go_wp2_with fail
    go_ret
    exact ⟨rfl, HFI.out w2 HB2.out⟩
  ·clear hbad
   go_enter Tryz.func145, Tryz.ntmps145
   go_wp2_with fail
   refine HU.out.mono ?_
   rintro e w2 ⟨rfl, hb2⟩
   have HB2 := Lib.hid hb2
   clear hb2 HU
   go_wp2_with fail
   go_ret
   exact ⟨rfl, HFI.out w2 HB2.out⟩
 ·have HN := Lib.hid (takeHd_go hbad)
  have h0 : (takeU maxI b).2.2 = 0 := by
   by_cases h : (takeU maxI b).2.2 = 0
   ·exact h
   ·exact absurd (.inl h) hbad
  have hn1 : ¬ (takeU maxI b).1 < 1 := fun h => hbad (.inr (.inl h))
  have hn2 : ¬ ((takeU maxI b).1 : Int) = maxInt := fun h => hbad (.inr (.inr h))
  unfold maxInt at hn2
  rw [h0] at HU
  obtain ⟨nv, hnv⟩ : ∃ nv, nv = (takeU maxI b).1 := ⟨_, rfl⟩
  obtain ⟨us, hus⟩ : ∃ us, us = (takeU maxI b).2.1 := ⟨_, rfl⟩
  rw [← hnv, ← hus] at HU HN
  rw [← hnv] at hmx hn1 hn2
  rw [← hus] at hun
  have HR := Lib.hid hr
  have HA := Lib.hid hA
  clear hbad h0 hnv hus hr hA hsame hG
  have hd1 : decide ((nv : Int) < 1) = false := by simp; omega
  have hd2 : ((nv : Int) == 9223372036854775807) = false := by simp; omega
  have HCC := Lib.hid (And.intro h1 h2)
  clear h1 h2
  go_enter Tryz.func145, Tryz.ntmps145
  go_wp2_with fail
  refine HU.out.mono ?_
  rintro e w2 ⟨rfl, hb2⟩
  have HB2 := Lib.hid hb2
  clear hb2 HU
  have hW : w2.grownBy (w2.alloc (.cells [Value.pointer (some ⟨G, 2, none⟩)].toArray 155)).drew (some G) := grown_of_below (below_drewN ((Below.refl _ w2).alloc (Nat.le_refl _) _) 1) (some G)
  have hbW : Below w2.heap.size w2 (w2.alloc (.cells [Value.pointer (some ⟨G, 2, none⟩)].toArray 155)).drew := below_drewN ((Below.refl _ w2).alloc (Nat.le_refl _) _) 1
  have hs2 := HB2.out.size
  have hGl := HG.out.lt
  have HTN : Hid (Calls Tryz.prog 104 #[.slice (cutA A us c) (b.length - us) (c - us), .slice (some ⟨w2.heap.size, 0, none⟩) 1 1] (w2.alloc (.cells [Value.pointer (some ⟨G, 2, none⟩)].toArray 155)).drew _) := Lib.hid (by
   have hq := Rd.cutA (HR.out.below HB2.out) (k := us) (cap := c) (by rw [cells_length]; omega) (by rw [cells_length]; exact hbc)
   have hq2 : Rd w2 w.heap.size (cutA A us c) (cells (b.drop us)) := by simpa [cells, List.map_drop] using hq
   have := jtakeNums_any (cutA A us c) (b.drop us) (c - us) (some ⟨w2.heap.size, 0, none⟩) 1 1 G 2 T cs (w2.alloc (.cells [Value.pointer (some ⟨G, 2, none⟩)].toArray 155)).drew ((hq2.more hs2).below hbW |>.more hbW.size) (fun h0 => cutA_ne (HA.out (by rw [List.length_drop] at h0; omega))) (by rw [List.length_drop]; omega) (by rw [List.length_drop]; omega) (by omega)
    ((rd_lit w2 155 [Value.pointer (some ⟨G, 2, none⟩)]).more (by simp)) (fun ad e => by injection e with e; subst e; show w2.heap.size ≠ G; omega) (HG.out.below (HB2.out.trans (hbW.mono hs2)) hGl) (by omega) (fun i hi => by
     obtain rfl : i = 0 := by omega
     exact ⟨_, HCC.out.2, rfl⟩)
   rw [List.length_drop] at this
   exact this)
  have hcut := fun W : World => run_cut_from (P := Tryz.prog) Tryz.underlying34 info_u8 A b.length c us hun (us : Int) rfl W
  go_wp2_with fail
  refine wp_region_heldT 12 rfl (S := fun _ => True) trivial (fun hHeld => ?_)
  refine heldT_take 0 (v := ?_) (by simp) (by kernel_rfl) (by kernel_rfl) (by kernel_rfl) (by kernel_rfl) (fun _ _ _ h => h) (Or.inl ⟨by rfl, ?_⟩) hHeld ?_
  case refine_2 => (intro w hSw; (try dsimp only at hSw); (try (obtain ⟨s0, s1, s2, s3⟩ := hSw)); simp only [List.getElem_cons_zero]; go_simp <;> with_reducible rfl)
  simp only [List.getElem_cons_zero, Act.put, List.setIfInBounds_toArray, List.set_cons_zero, List.set_cons_succ]
  refine heldT_take 1 (v := ?_) (by simp) (by kernel_rfl) (by kernel_rfl) (by kernel_rfl) (by kernel_rfl) (fun _ _ _ h => h) (Or.inl ⟨by rfl, ?_⟩) hHeld ?_
  case refine_2 => (intro w hSw; (try dsimp only at hSw); (try (obtain ⟨s0, s1, s2, s3⟩ := hSw)); simp only [List.getElem_cons_zero, List.getElem_cons_succ]; go_simp <;> with_reducible rfl)
  simp only [List.getElem_cons_zero, List.getElem_cons_succ, Act.put, List.setIfInBounds_toArray, List.set_cons_zero, List.set_cons_succ]
  refine heldT_take 2 (v := ?_) (by simp) (by kernel_rfl) (by kernel_rfl) (by kernel_rfl) (by kernel_rfl) (fun _ _ _ h => h) (Or.inl ⟨by rfl, ?_⟩) hHeld ?_
  case refine_2 => (intro w hSw; (try dsimp only at hSw); (try (obtain ⟨s0, s1, s2, s3⟩ := hSw)); simp only [List.getElem_cons_zero, List.getElem_cons_succ]; go_simp <;> with_reducible rfl)
  simp only [List.getElem_cons_zero, List.getElem_cons_succ, Act.put, List.setIfInBounds_toArray, List.set_cons_zero, List.set_cons_succ]
  refine heldT_take 3 (v := ?_) (by simp) (by kernel_rfl) (by kernel_rfl) (by kernel_rfl) (by kernel_rfl) (fun _ _ _ h => h) (Or.inl ⟨by rfl, ?_⟩) hHeld ?_
  case refine_2 => (intro w hSw; (try dsimp only at hSw); (try (obtain ⟨s0, s1, s2, s3⟩ := hSw)); simp only [List.getElem_cons_zero, List.getElem_cons_succ]; go_simp <;> with_reducible rfl)
  simp only [List.getElem_cons_zero, List.getElem_cons_succ, Act.put, List.setIfInBounds_toArray, List.set_cons_zero, List.set_cons_succ]
  refine heldT_take 4 (v := ?_) (by simp) (by kernel_rfl) (by kernel_rfl) (by kernel_rfl) (by kernel_rfl) (fun _ _ _ h => h) (Or.inl ⟨by rfl, ?_⟩) hHeld ?_
  case refine_2 => (intro w hSw; (try dsimp only at hSw); (try (obtain ⟨s0, s1, s2, s3⟩ := hSw)); simp only [List.getElem_cons_zero, List.getElem_cons_succ]; go_simp <;> with_reducible rfl)
  simp only [List.getElem_cons_zero, List.getElem_cons_succ, Act.put, List.setIfInBounds_toArray, List.set_cons_zero, List.set_cons_succ]
  refine heldT_take 5 (v := ?_) (by simp) (by kernel_rfl) (by kernel_rfl) (by kernel_rfl) (by kernel_rfl) (fun _ _ _ h => h) (Or.inl ⟨by rfl, ?_⟩) hHeld ?_
  case refine_2 => (intro w hSw; (try dsimp only at hSw); (try (obtain ⟨s0, s1, s2, s3⟩ := hSw)); simp only [List.getElem_cons_zero, List.getElem_cons_succ]; go_simp <;> with_reducible rfl)
  simp only [List.getElem_cons_zero, List.getElem_cons_succ, Act.put, List.setIfInBounds_toArray, List.set_cons_zero, List.set_cons_succ]
  refine heldT_sole 6 (by simp) (by kernel_rfl) (fun K hK => ?_)
  simp only [List.getElem_cons_zero, List.getElem_cons_succ]
  go_simp
  refine hK _ _ trivial (fun hHeld => ?_)
  clear hK K
  try simp only [Act.put, List.setIfInBounds_toArray, List.set_cons_zero, List.set_cons_succ]
  refine heldT_sole 7 (by simp) (by kernel_rfl) (fun K hK => ?_)
  simp only [List.getElem_cons_zero, List.getElem_cons_succ]
  go_simp
  refine HTN.out.mono ?_
  rintro e w3 ⟨v, rfl, hgr, ⟨vals, hvl, hB3, hvs⟩, Ar, rr, cr, rfl, hrc, hcr, hrd, hgd⟩
  refine hK _ _ trivial (fun hHeld => ?_)
  clear hK K
  try simp only [Act.put, List.setIfInBounds_toArray, List.set_cons_zero, List.set_cons_succ]
  have hG3 : w.grownBy w3 (some G) := grown_then (grown_then (grown_of_below HB2.out (some G)) hW (.inl rfl)) hgr (.inl rfl)
  obtain ⟨t, hst, htN⟩ : ∃ t, setAll cs 2 vals = cs.setIfInBounds 2 (.int .i64 t) ∧ ∀ r, (takeN 1 (b.drop us)).2 = some r → (takeN 1 (b.drop us)).1 = [t] := by
   match vals, hvl with
   | [], _ => exact ⟨t0, by rw [setAll, set_same cs 2 _ HCC.out.2], fun r h => by have := (hvs r h).2; simp at this⟩
   | [x], _ => exact ⟨x, by rw [setAll, setAll], fun r h => (hvs r h).1.symm⟩
  rw [hst] at hB3
  have c1 : w3.cell? ⟨G, 1, none⟩ = some (.int .i64 f0) := by
   refine (hB3.cell 1).trans ?_
   rw [Array.getElem?_setIfInBounds_ne (by omega)]
   exact HCC.out.1
  have cf : w3.frozen? ⟨G, 1, none⟩ = false := hB3.frozen _
  have HRES : Hid ((takeHd b).isSome = ((takeN 1 (b.drop us)).2.isSome && ((rr.length : Int) == 0)) ∧ ∀ q, takeHd b = some q → ((nv : Int), t) = q) := Lib.hid (by
   rw [HN.out]
   rcases hN : takeN 1 (b.drop us) with ⟨N1, _ | r⟩
   ·simp
   ·rw [hN] at htN hgd
    have e1 : N1 = [t] := htN r rfl
    subst e1
    obtain rfl : r = rr := hgd
    cases r with
    | nil => simp
    | cons x y => simp; omega)
  have HG3 := Lib.hid hG3
  have HB3 := Lib.hid hB3
  generalize (takeN 1 (b.drop us)).2.isSome = okv at HRES ⊢
  clear hG3 hB3 hst htN hgd hvs hgr hrd hcut HTN hW hbW HN
  refine heldT_take 8 (v := ?_) (by simp) (by kernel_rfl) (by kernel_rfl) (by kernel_rfl) (by kernel_rfl) (fun _ _ _ h => h) (Or.inl ⟨by rfl, ?_⟩) hHeld ?_
  case refine_2 => (intro w hSw; (try dsimp only at hSw); (try (obtain ⟨s0, s1, s2, s3⟩ := hSw)); simp only [List.getElem_cons_zero, List.getElem_cons_succ]; go_simp <;> with_reducible rfl)
  simp only [List.getElem_cons_zero, List.getElem_cons_succ, Act.put, List.setIfInBounds_toArray, List.set_cons_zero, List.set_cons_succ]
  refine heldT_take 9 (v := ?_) (by simp) (by kernel_rfl) (by kernel_rfl) (by kernel_rfl) (by kernel_rfl) (fun _ _ _ h => h) (Or.inl ⟨by rfl, ?_⟩) hHeld ?_
  case refine_2 => (intro w hSw; (try dsimp only at hSw); (try (obtain ⟨s0, s1, s2, s3⟩ := hSw)); simp only [List.getElem_cons_zero, List.getElem_cons_succ]; go_simp <;> with_reducible rfl)
  simp only [List.getElem_cons_zero, List.getElem_cons_succ, Act.put, List.setIfInBounds_toArray, List.set_cons_zero, List.set_cons_succ]
  refine heldT_take 10 (v := ?_) (by simp) (by kernel_rfl) (by kernel_rfl) (by kernel_rfl) (by kernel_rfl) (fun _ _ _ h => h) (Or.inl ⟨by rfl, ?_⟩) hHeld ?_
  case refine_2 => (intro w hSw; (try dsimp only at hSw); (try (obtain ⟨s0, s1, s2, s3⟩ := hSw)); simp only [List.getElem_cons_zero, List.getElem_cons_succ]; go_simp <;> with_reducible rfl)
  simp only [List.getElem_cons_zero, List.getElem_cons_succ, Act.put, List.setIfInBounds_toArray, List.set_cons_zero, List.set_cons_succ]
  refine heldT_take 11 (v := ?_) (by simp) (by kernel_rfl) (by kernel_rfl) (by kernel_rfl) (by kernel_rfl) (fun _ _ _ h => h) (Or.inl ⟨by rfl, ?_⟩) hHeld ?_
  case refine_2 => (intro w hSw; (try dsimp only at hSw); (try (obtain ⟨s0, s1, s2, s3⟩ := hSw)); simp only [List.getElem_cons_zero, List.getElem_cons_succ]; go_simp <;> with_reducible rfl)
  simp only [List.getElem_cons_zero, List.getElem_cons_succ, Act.put, List.setIfInBounds_toArray, List.set_cons_zero, List.set_cons_succ]
  refine heldT_last (t := 12) (by simp) (by kernel_rfl) (by kernel_rfl) (fun K hK => ?_)
  simp only [List.getElem_cons_zero, List.getElem_cons_succ]
  go_simp
  refine hK _ _ ?_
  clear hK K hHeld
  have hgw : w.grownBy (w3.setCell ⟨G, 1, none⟩ (.int .i64 nv)) (some G) := grown_then HG3.out ⟨rfl, rfl, rfl, (grown_setCell w3 G 1 (.int .i64 nv)).size, (grown_setCell w3 G 1 (.int .i64 nv)).block⟩ (.inl rfl)
  have hbw : Blk (w3.setCell ⟨G, 1, none⟩ (.int .i64 nv)) G T ((cs.setIfInBounds 2 (.int .i64 t)).setIfInBounds 1 (.int .i64 nv)) := HB3.out.set_ 1 (.int .i64 nv)
  have HGW := Lib.hid (And.intro hgw hbw)
  clear hgw hbw
  cases okv
  ·go_wp2_with fail
   go_ret
   exact ⟨by rw [HRES.out.1]; rfl, HGW.out.1, (nv : Int), t, HGW.out.2, HRES.out.2⟩
  ·go_wp2_with fail
   go_ret
   exact ⟨by rw [HRES.out.1]; rfl, HGW.out.1, (nv : Int), t, HGW.out.2, HRES.out.2⟩
end Go.Proofs.YtgeofijddhflaaaGreatDoor
set_option linter.unusedVariables false
set_option linter.unusedSimpArgs false
namespace Go.Proofs.YtgeofijddhflaaaGreatDoor
open Go.RowKit Go.Maps Oct
set_option maxHeartbeats 4000000 in
set_option maxRecDepth 100000 in
theorem jmeta_any {w : World} {base g m : Nat} {p : PWD} {room : Int} {es : List (Nm × FE)} (h : DiskAt w base g m p room es) (hfb : ∀ q ∈ es, q.2.f.b.length ≤ 1000000000) {gj : Nat} {t0 v0 : Int} {sv : Value} {bad : Int} (hJ : Blk w gj 53 #[.int .i64 t0, .int .i64 v0, sv, .pointer (some ⟨g, 0, none⟩), .int .i64 bad])
  (hz : t0 = 0 ∧ v0 = 0) :
  Calls Tryz.prog 51 #[.pointer (some ⟨gj, 0, none⟩)] w fun e w' => e = .returned (.bool (readMetaS (dkOf p room es)).isSome) ∧ w.grownBy w' (some gj) ∧ ∃ t v, Blk w' gj 53 #[.int .i64 t, .int .i64 v, sv, .pointer (some ⟨g, 0, none⟩), .int .i64 bad] ∧ ∀ q, readMetaS (dkOf p room es) = some q → (t, v) = q := by
 have HRD := Lib.hid (dread_any h ⟨#[109, 101, 116, 97]⟩ (by show 4 ≤ _; omega) (fun q hq => by have := hfb q hq; omega))
 obtain ⟨RD, hRD⟩ : ∃ R, R = (dkOf p room es).read metaN := ⟨_, rfl⟩
 have hrl : RD.1.length ≤ 1000000000 := by
  rw [hRD]
  unfold DkD.read
  split
  ·simp
  ·split
   ·simp
   ·rename_i f hf
    have := asGet_some hf
    obtain ⟨q, hq, e⟩ := List.mem_map.1 this
    injection e with e1 e2
    rw [← e2]
    exact hfb q hq
 change Hid (Calls _ _ _ _ fun e w' => ∃ v, e = .returned (.tuple #[v, .int .i64 ((dkOf p room es).read metaN).2]) ∧ Bs w' w.heap.size v ((dkOf p room es).read metaN).1 ∧ Below w.heap.size w w') at HRD
 have hM : readMetaS (dkOf p room es) = if RD.2 ≠ 0 then some (0, 0) else if (openS RD.1).2.2 ≠ 0 ∨ (openS RD.1).2.1 ≠ RD.1.length then none else
  match takeN 2 (openS RD.1).1 with
  | ([t, v], some []) => some (t, v)
  | _ => none := by
  unfold readMetaS
  rw [← hRD]
  obtain ⟨a, b⟩ := RD
  rfl
 obtain ⟨M, hMM⟩ : ∃ M, M = readMetaS (dkOf p room es) := ⟨_, rfl⟩
 rw [← hMM] at hM ⊢
 rw [← hRD] at HRD
 have HM := Lib.hid hM
 have HJ := Lib.hid hJ
 have HZ := Lib.hid hz
 have j3 : w.cell? ⟨gj, 3, none⟩ = some (.pointer (some ⟨g, 0, none⟩)) := hJ.cell 3
 have hgl := hJ.lt
 obtain ⟨rb, re⟩ := RD
 simp only at hrl HM HRD
 clear h hfb hRD hM hMM hJ hz
 go_enter Tryz.func51, Tryz.ntmps51
 go_wp2_with fail
 refine HRD.out.mono ?_
 rintro e w2 ⟨v2, rfl, hv2, hb2⟩
 obtain ⟨A2, c2, rfl, q1, q2, q3⟩ := bs_shape hv2
 have hs2 := hb2.size
 have HB2 := Lib.hid hb2
 have HJ2 := Lib.hid (HJ.out.below hb2 hgl)
 have HOP := Lib.hid (open_any A2 rb rb.length c2 rfl w2 q3 q1 ⟨by omega, by omega⟩)
 clear HRD hb2 hv2 q3 j3
 by_cases h0 : re = 0
 ·subst h0
  go_wp2_with fail
  refine HOP.out.mono ?_
  rintro e w3 ⟨v3, rfl, hv3, hb3⟩
  obtain ⟨pl, hpl⟩ : ∃ x, x = (openS rb).1 := ⟨_, rfl⟩
  obtain ⟨pu, hpu⟩ : ∃ x, x = (openS rb).2.1 := ⟨_, rfl⟩
  obtain ⟨pe, hpe⟩ : ∃ x, x = (openS rb).2.2 := ⟨_, rfl⟩
  rw [← hpl] at hv3
  rw [← hpu, ← hpe]
  have hM2 := HM.out
  rw [if_neg (by simp), ← hpl, ← hpu, ← hpe] at hM2
  have hpll : pe = 0 → pl.length ≤ 1048576 := by
   rw [hpl, hpe]
   exact fun h => (open_form h).1
  clear hpl hpu hpe HOP HM
  have HM2 := Lib.hid hM2
  obtain ⟨A3, c3, rfl, y1, y2, y3⟩ := bs_shape hv3
  have HLO : Hid (∀ ad, A3 = some ad → w2.heap.size ≤ ad.block) := Lib.hid (fun ad e => (Own.lt hv3 ad.block (by subst e; rfl)).1)
  have hs3 := hb3.size
  have HB3 := Lib.hid (HB2.out.trans (hb3.mono hs2))
  have HJ3 := Lib.hid (HJ2.out.below hb3 (by omega))
  have HR3 := Lib.hid y3
  clear hM2 hv3 hb3 y3 HB2 HJ2
  by_cases h1 : pe = 0
  ·subst h1
   by_cases h2 : (pu : Int) = (rb.length : Int)
   ·have hM3 := HM2.out
    rw [if_neg (by rintro (h | h); exact h rfl; exact h (by omega))] at hM3
    have HM3 := Lib.hid hM3
    have H2 := Lib.hid h2
    clear hM3 HM2
    have hp7 : pl.length ≤ 1048576 := hpll rfl
    have hl7 : w3.heap.size ≤ (w3.drew.alloc (.cells [Value.pointer (some ⟨gj, 0, none⟩), Value.pointer (some ⟨gj, 1, none⟩)].toArray 155)).heap.size := by simp
    have hgj3 : gj < w3.heap.size := HJ3.out.lt
    have hgj2 : gj < w2.heap.size := by omega
    have HTN : Hid (Calls Tryz.prog 104 #[.slice A3 pl.length c3, .slice (some ⟨w3.heap.size, 0, none⟩) 2 2] (w3.drew.alloc (.cells [Value.pointer (some ⟨gj, 0, none⟩), Value.pointer (some ⟨gj, 1, none⟩)].toArray 155)) _) := Lib.hid (by
     have hbW : Below w3.heap.size w3 (w3.drew.alloc (.cells [Value.pointer (some ⟨gj, 0, none⟩), Value.pointer (some ⟨gj, 1, none⟩)].toArray 155)) := ((Below.refl _ w3).drew).alloc (by simp) _
     exact jtakeNums_any A3 pl c3 (some ⟨w3.heap.size, 0, none⟩) 2 2 gj 0 53 _ (w3.drew.alloc (.cells [Value.pointer (some ⟨gj, 0, none⟩), Value.pointer (some ⟨gj, 1, none⟩)].toArray 155)) ((HR3.out.below hbW).more hbW.size) (fun h0 ad e => by have := HLO.out ad e; omega) y1 (by omega) (by omega)
      ((rd_lit w3.drew 155 [Value.pointer (some ⟨gj, 0, none⟩), Value.pointer (some ⟨gj, 1, none⟩)]).more (by simp)) (fun ad e => by injection e with e; subst e; show w3.heap.size ≠ gj; omega) (HJ3.out.below hbW hgj3) (by omega) (fun i hi => by
       rcases (by omega : i = 0 ∨ i = 1) with rfl | rfl
       ·exact ⟨_, rfl, rfl⟩
       ·exact ⟨_, rfl, rfl⟩))
    go_upto_region 7 with fail
    refine wp_region_held_drew (S := fun _ => True) (by kernel_rfl) trivial (fun hHeld => ?_)
    refine held_take 0 (v := ?_) (by simp) (by kernel_rfl) (by kernel_rfl) (by kernel_rfl) (fun _ _ _ h => h) (Or.inl ⟨by rfl, ?_⟩) hHeld ?_
    case refine_2 => (intro w hSw; (try dsimp only at hSw); (try (obtain ⟨s0, s1, s2, s3⟩ := hSw)); simp only [List.getElem_cons_zero]; go_simp <;> with_reducible rfl)
    simp only [List.getElem_cons_zero, Act.put, List.setIfInBounds_toArray, List.set_cons_zero, List.set_cons_succ]
    refine held_take 1 (v := ?_) (by simp) (by kernel_rfl) (by kernel_rfl) (by kernel_rfl) (fun _ _ _ h => h) (Or.inl ⟨by rfl, ?_⟩) hHeld ?_
    case refine_2 => (intro w hSw; (try dsimp only at hSw); (try (obtain ⟨s0, s1, s2, s3⟩ := hSw)); simp only [List.getElem_cons_zero, List.getElem_cons_succ]; go_simp <;> with_reducible rfl)
    simp only [List.getElem_cons_zero, List.getElem_cons_succ, Act.put, List.setIfInBounds_toArray, List.set_cons_zero, List.set_cons_succ]
    refine held_take 2 (v := ?_) (by simp) (by kernel_rfl) (by kernel_rfl) (by kernel_rfl) (fun _ _ _ h => h) (Or.inl ⟨by rfl, ?_⟩) hHeld ?_
    case refine_2 => (intro w hSw; (try dsimp only at hSw); (try (obtain ⟨s0, s1, s2, s3⟩ := hSw)); simp only [List.getElem_cons_zero, List.getElem_cons_succ]; go_simp <;> with_reducible rfl)
    simp only [List.getElem_cons_zero, List.getElem_cons_succ, Act.put, List.setIfInBounds_toArray, List.set_cons_zero, List.set_cons_succ]
    refine held_take 3 (v := ?_) (by simp) (by kernel_rfl) (by kernel_rfl) (by kernel_rfl) (fun _ _ _ h => h) (Or.inl ⟨by rfl, ?_⟩) hHeld ?_
    case refine_2 => (intro w hSw; (try dsimp only at hSw); (try (obtain ⟨s0, s1, s2, s3⟩ := hSw)); simp only [List.getElem_cons_zero, List.getElem_cons_succ]; go_simp <;> with_reducible rfl)
    simp only [List.getElem_cons_zero, List.getElem_cons_succ, Act.put, List.setIfInBounds_toArray, List.set_cons_zero, List.set_cons_succ]
    refine held_take 4 (v := ?_) (by simp) (by kernel_rfl) (by kernel_rfl) (by kernel_rfl) (fun _ _ _ h => h) (Or.inl ⟨by rfl, ?_⟩) hHeld ?_
    case refine_2 => (intro w hSw; (try dsimp only at hSw); (try (obtain ⟨s0, s1, s2, s3⟩ := hSw)); simp only [List.getElem_cons_zero, List.getElem_cons_succ]; go_simp <;> with_reducible rfl)
    simp only [List.getElem_cons_zero, List.getElem_cons_succ, Act.put, List.setIfInBounds_toArray, List.set_cons_zero, List.set_cons_succ]
    refine held_take 5 (v := ?_) (by simp) (by kernel_rfl) (by kernel_rfl) (by kernel_rfl) (fun _ _ _ h => h) (Or.inl ⟨by rfl, ?_⟩) hHeld ?_
    case refine_2 => (intro w hSw; (try dsimp only at hSw); (try (obtain ⟨s0, s1, s2, s3⟩ := hSw)); simp only [List.getElem_cons_zero, List.getElem_cons_succ]; go_simp <;> with_reducible rfl)
    simp only [List.getElem_cons_zero, List.getElem_cons_succ, Act.put, List.setIfInBounds_toArray, List.set_cons_zero, List.set_cons_succ]
    refine held_take 6 (v := ?_) (by simp) (by kernel_rfl) (by kernel_rfl) (by kernel_rfl) (fun _ _ _ h => h) (Or.inl ⟨by rfl, ?_⟩) hHeld ?_
    case refine_2 => (intro w hSw; (try dsimp only at hSw); (try (obtain ⟨s0, s1, s2, s3⟩ := hSw)); simp only [List.getElem_cons_zero, List.getElem_cons_succ]; go_simp <;> with_reducible rfl)
    simp only [List.getElem_cons_zero, List.getElem_cons_succ, Act.put, List.setIfInBounds_toArray, List.set_cons_zero, List.set_cons_succ]
    refine held_take 7 (v := ?_) (by simp) (by kernel_rfl) (by kernel_rfl) (by kernel_rfl) (fun _ _ _ h => h) (Or.inl ⟨by rfl, ?_⟩) hHeld ?_
    case refine_2 => (intro w hSw; (try dsimp only at hSw); (try (obtain ⟨s0, s1, s2, s3⟩ := hSw)); simp only [List.getElem_cons_zero, List.getElem_cons_succ]; go_simp <;> with_reducible rfl)
    simp only [List.getElem_cons_zero, List.getElem_cons_succ, Act.put, List.setIfInBounds_toArray, List.set_cons_zero, List.set_cons_succ]
    refine held_take 8 (v := ?_) (by simp) (by kernel_rfl) (by kernel_rfl) (by kernel_rfl) (fun _ _ _ h => h) (Or.inl ⟨by rfl, ?_⟩) hHeld ?_
    case refine_2 => (intro w hSw; (try dsimp only at hSw); (try (obtain ⟨s0, s1, s2, s3⟩ := hSw)); simp only [List.getElem_cons_zero, List.getElem_cons_succ]; go_simp <;> with_reducible rfl)
    simp only [List.getElem_cons_zero, List.getElem_cons_succ, Act.put, List.setIfInBounds_toArray, List.set_cons_zero, List.set_cons_succ]
    refine held_sole 9 (by simp) (by kernel_rfl) (fun K hK => ?_)
    simp only [List.getElem_cons_zero, List.getElem_cons_succ]
    go_simp
    refine hK.out _ _ trivial (fun hHeld => ?_)
    clear hK K
    try simp only [Act.put, List.setIfInBounds_toArray, List.set_cons_zero, List.set_cons_succ]
    refine held_sole 10 (by simp) (by kernel_rfl) (fun K hK => ?_)
    simp only [List.getElem_cons_zero, List.getElem_cons_succ]
    go_simp
    refine HTN.out.mono ?_
    rintro e w4 ⟨v4, rfl, hg4, ⟨vals, hvl, hK4, hv4⟩, Ar, rr, cr, rfl, z1, z2, z3, z4⟩
    have HG4 := Lib.hid hg4
    have HK4 := Lib.hid hK4
    have HV4 := Lib.hid hv4
    have HZ4 := Lib.hid z4
    clear hg4 hK4 hv4 z3 z4 HTN HR3
    refine hK.out _ _ trivial (fun hHeld => ?_)
    clear hK K
    try simp only [Act.put, List.setIfInBounds_toArray, List.set_cons_zero, List.set_cons_succ]
    refine held_take 11 (v := ?_) (by simp) (by kernel_rfl) (by kernel_rfl) (by kernel_rfl) (fun _ _ _ h => h) (Or.inl ⟨by rfl, ?_⟩) hHeld ?_
    case refine_2 => (intro w hSw; (try dsimp only at hSw); (try (obtain ⟨s0, s1, s2, s3⟩ := hSw)); simp only [List.getElem_cons_zero, List.getElem_cons_succ]; go_simp <;> with_reducible rfl)
    simp only [List.getElem_cons_zero, List.getElem_cons_succ, Act.put, List.setIfInBounds_toArray, List.set_cons_zero, List.set_cons_succ]
    refine held_take 12 (v := ?_) (by simp) (by kernel_rfl) (by kernel_rfl) (by kernel_rfl) (fun _ _ _ h => h) (Or.inl ⟨by rfl, ?_⟩) hHeld ?_
    case refine_2 => (intro w hSw; (try dsimp only at hSw); (try (obtain ⟨s0, s1, s2, s3⟩ := hSw)); simp only [List.getElem_cons_zero, List.getElem_cons_succ]; go_simp <;> with_reducible rfl)
    simp only [List.getElem_cons_zero, List.getElem_cons_succ, Act.put, List.setIfInBounds_toArray, List.set_cons_zero, List.set_cons_succ]
    refine held_take 13 (v := ?_) (by simp) (by kernel_rfl) (by kernel_rfl) (by kernel_rfl) (fun _ _ _ h => h) (Or.inl ⟨by rfl, ?_⟩) hHeld ?_
    case refine_2 => (intro w hSw; (try dsimp only at hSw); (try (obtain ⟨s0, s1, s2, s3⟩ := hSw)); simp only [List.getElem_cons_zero, List.getElem_cons_succ]; go_simp <;> with_reducible rfl)
    simp only [List.getElem_cons_zero, List.getElem_cons_succ, Act.put, List.setIfInBounds_toArray, List.set_cons_zero, List.set_cons_succ]
    refine held_take 14 (v := ?_) (by simp) (by kernel_rfl) (by kernel_rfl) (by kernel_rfl) (fun _ _ _ h => h) (Or.inl ⟨by rfl, ?_⟩) hHeld ?_
    case refine_2 => (intro w hSw; (try dsimp only at hSw); (try (obtain ⟨s0, s1, s2, s3⟩ := hSw)); simp only [List.getElem_cons_zero, List.getElem_cons_succ]; go_simp <;> with_reducible rfl)
    simp only [List.getElem_cons_zero, List.getElem_cons_succ, Act.put, List.setIfInBounds_toArray, List.set_cons_zero, List.set_cons_succ]
    refine held_take 15 (v := ?_) (by simp) (by kernel_rfl) (by kernel_rfl) (by kernel_rfl) (fun _ _ _ h => h) (Or.inl ⟨by rfl, ?_⟩) hHeld ?_
    case refine_2 => (intro w hSw; (try dsimp only at hSw); (try (obtain ⟨s0, s1, s2, s3⟩ := hSw)); simp only [List.getElem_cons_zero, List.getElem_cons_succ]; go_simp <;> with_reducible rfl)
    simp only [List.getElem_cons_zero, List.getElem_cons_succ, Act.put, List.setIfInBounds_toArray, List.set_cons_zero, List.set_cons_succ]
    refine wpAnyH_done (by kernel_rfl) ?_ _
    have hbW : Below w3.heap.size w3 (w3.drew.alloc (.cells [Value.pointer (some ⟨gj, 0, none⟩), Value.pointer (some ⟨gj, 1, none⟩)].toArray 155)) := ((Below.refl _ w3).drew).alloc (by simp) _
    have HGG := Lib.hid (grown_then (grown_then (grown_of_below HB3.out (some gj)) (grown_of_below hbW (some gj)) (.inl rfl)) HG4.out (.inl rfl))
    clear hbW HG4 hl7 HJ3 HB3
    have hsplit : ∃ t v, setAll #[.int .i64 t0, .int .i64 v0, sv, .pointer (some ⟨g, 0, none⟩), .int .i64 bad] 0 vals = #[.int .i64 t, .int .i64 v, sv, .pointer (some ⟨g, 0, none⟩), .int .i64 bad] ∧ ∀ r, (takeN 2 pl).2 = some r → (takeN 2 pl).1 = [t, v] := by
     match vals, hvl, HV4.out with
     | [], _, hv => exact ⟨t0, v0, rfl, fun r h => by have := (hv r h).2; simp at this⟩
     | [x], _, hv => exact ⟨x, v0, rfl, fun r h => by have := (hv r h).2; simp at this⟩
     | [x, y], _, hv => exact ⟨x, y, rfl, fun r h => (hv r h).1.symm⟩
    obtain ⟨t, v, hst, htv⟩ := hsplit
    have hK5 := HK4.out
    rw [hst] at hK5
    have HK5 := Lib.hid hK5
    have HTV := Lib.hid htv
    clear HK4 HV4 hst htv hK5 hvl
    have hM4 : M = match (takeN 2 pl).2 with
     | some [] => some (t, v)
     | _ => none := by
     rw [HM3.out]
     have h9 := HTV.out
     generalize takeN 2 pl = T at h9 ⊢
     obtain ⟨a, _ | r⟩ := T
     ·simp
     ·obtain rfl : a = [t, v] := h9 r rfl
      cases r <;> rfl
    have HM4 := Lib.hid hM4
    obtain ⟨ob, hob⟩ : ∃ o, o = (takeN 2 pl).2 := ⟨_, rfl⟩
    rw [← hob] at HM4 HZ4 ⊢
    clear hM4 HM3 hob HTV
    cases ob with
    | none =>
     have hn : M = none := HM4.out
     subst hn
     clear HM4
     go_wp2_with fail
     go_ret
     exact ⟨rfl, HGG.out, t, v, HK5.out, fun q h => by cases h⟩
    | some r =>
     obtain rfl : r = rr := HZ4.out
     cases r with
     | nil =>
      have hn : M = some (t, v) := HM4.out
      subst hn
      clear HM4
      go_wp2_with fail
      go_ret
      exact ⟨rfl, HGG.out, t, v, HK5.out, fun q h => by injection h⟩
     | cons x y =>
      have hn : M = none := HM4.out
      subst hn
      clear HM4
      have hbq : (((x :: y).length : Int) == 0) = false := by simp; omega
      go_wp2_with fail
      go_ret
      exact ⟨rfl, HGG.out, t, v, HK5.out, fun q h => by cases h⟩
   ·have hn : M = none := by rw [HM2.out, if_pos (.inr (fun h => h2 (by omega)))]
    subst hn
    clear HM2
    have hbn : ((pu : Int) != (rb.length : Int)) = true := bne_iff_ne.2 h2
    go_wp2_with fail
    go_ret
    exact ⟨rfl, grown_of_below HB3.out _, t0, v0, HJ3.out, fun q h => by cases h⟩
  ·have hn : M = none := by rw [HM2.out, if_pos (.inl h1)]
   subst hn
   clear HM2
   go_wp2_with fail
   go_ret
   exact ⟨rfl, grown_of_below HB3.out _, t0, v0, HJ3.out, fun q h => by cases h⟩
 ·have hn : M = some (0, 0) := by rw [HM.out, if_pos h0]
  subst hn
  clear HM
  go_wp2_with fail
  go_ret
  exact ⟨rfl, grown_of_below HB2.out _, t0, v0, HJ2.out, fun q h => by injection h with h; rw [← h, HZ.out.1, HZ.out.2]⟩
end Go.Proofs.YtgeofijddhflaaaGreatDoor
