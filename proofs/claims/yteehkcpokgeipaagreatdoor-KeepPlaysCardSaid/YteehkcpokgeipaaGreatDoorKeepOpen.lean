/- keep.open in plain words, and its walk. Condition: the bytes can be read. -/
import Derived.Test.YteehkcpokgeipaaGreatDoorCalcFacts
import Derived.Test.YteehkcpokgeipaaGreatDoorKeepRPieces
import Derived.Test.YteehkcpokgeipaaGreatDoorDiskP
import Derived.Test.YteehkcpokgeipaaGreatDoorKeepSame
import Derived.Test.YteehkcpokgeipaaGreatDoorSealL
import Derived.Test.YteehkcpokgeipaaGreatDoorHeld
import Derived.Laws.Concat
import Derived.Lib.ItoaLen
set_option linter.unusedVariables false
namespace Go.Proofs.YteehkcpokgeipaaGreatDoor
open Go.RowKit Oct
set_option maxHeartbeats 1000000 in
theorem closed_any (A : Option Addr) (ps : List Row) (n c : Nat) (hn : n = ps.length) (w : World) (hr : Rd w w.heap.size A (ps.map Row.val)) (hp : RRd w w.heap.size ps) (hl : ps.length ≤ 140737488351232) (hf : (flat ps).length ≤ 140737488351232) (hnc : ps.length ≤ c) :
  Calls Tryz.prog 55 #[.slice A n c] w fun e w' => ∃ v, e = .returned v ∧ Got w' w.heap.size v (closeS (flat ps)) ∧ Below w.heap.size w w' := by
 have HJ := Lib.hid (join_any A ps n c hn w hr hp hl hf hnc)
 clear hr hp hn
 go_enter Tryz.func55, Tryz.ntmps55
 go_wp2_with fail
 refine HJ.out.mono ?_
 rintro e w1 ⟨v, rfl, hg, hb⟩
 obtain ⟨A1, c1, rfl, h1, h2, h3⟩ := hg.shape
 have HC := Lib.hid (close_any A1 (flat ps) _ c1 rfl w1 h3 hf)
 have HB := Lib.hid hb
 clear hg hb h3 HJ
 go_wp2_with fail
 refine HC.out.mono ?_
 rintro e w2 ⟨v2, rfl, hg2, hb2⟩
 obtain ⟨A2, c2, rfl, _, _, _⟩ := hg2.shape
 have hs := HB.out.size
 have HG := Lib.hid (And.intro (hg2.mono hs) (HB.out.trans (hb2.mono hs)))
 clear hg2 hb2 HC
 go_wp2_with fail
 go_ret
 exact ⟨_, rfl, HG.out.1, HG.out.2⟩
def footS (many : Nat) (l : List UInt8) : List UInt8 := closeS (enc many ++ enc (Crc.sum l))
set_option maxHeartbeats 2000000 in
theorem foot_any (many : Nat) (hm : many ≤ 1000000000) (A : Option Addr) (l : List UInt8) (c : Nat) (w : World) (hr : Rd w w.heap.size A (cells l)) (hl : l.length ≤ 1099511627776) :
  Calls Tryz.prog 56 #[.int .i64 many, .slice A l.length c] w fun e w' => ∃ v, e = .returned v ∧ Got w' w.heap.size v (footS many l) ∧ Below w.heap.size w w' := by
 have HU := Lib.hid (uint_tot (many : Int) (by omega) w)
 have HR := Lib.hid hr
 clear hr
 go_enter Tryz.func56, Tryz.ntmps56
 go_wp2_with fail
 refine HU.out.mono ?_
 rintro e w1 ⟨v1, rfl, hv1, hb1⟩
 obtain ⟨A1, c1, rfl, k1, k2, k3⟩ := bs_shape hv1
 go_wp2_with fail
 have hbA : Below w1.heap.size w1 (w1.alloc (.cells [Row.val ⟨A, l, c⟩].toArray 27)) := (Below.refl _ w1).alloc (Nat.le_refl _) _
 have hs1 := hb1.size
 have hrA : Rd (w1.alloc (.cells [Row.val ⟨A, l, c⟩].toArray 27)) (w1.alloc (.cells [Row.val ⟨A, l, c⟩].toArray 27)).heap.size (some ⟨w1.heap.size, 0, none⟩) [Row.val ⟨A, l, c⟩] := (rd_lit w1 27 [Row.val ⟨A, l, c⟩]).more (by simp)
 have hpA : RRd (w1.alloc (.cells [Row.val ⟨A, l, c⟩].toArray 27)) (w1.alloc (.cells [Row.val ⟨A, l, c⟩].toArray 27)).heap.size [⟨A, l, c⟩] := fun p hp => by
  obtain rfl := List.mem_singleton.1 hp
  exact ⟨((HR.out.below hb1).more hs1 |>.below hbA).more hbA.size, by show l.length ≤ _; omega⟩
 have HS := Lib.hid (sum_any (some ⟨w1.heap.size, 0, none⟩) [⟨A, l, c⟩] 1 1 rfl _ hrA hpA (by simp))
 have hflat : flat [⟨A, l, c⟩] = l := by simp [flat]
 rw [hflat] at HS
 have HV1 := Lib.hid (hv1.below hbA (Nat.le_refl _))
 have HB1 := Lib.hid (hb1.trans (hbA.mono hs1))
 have hsA := hbA.size
 have e1 : encI (many : Int) = enc many := by unfold encI; rw [if_neg (by omega)]; rfl
 rw [e1] at k1 ⊢
 rw [e1] at HV1
 have hcs : Crc.sum l < 4294967296 := Crc.sum_lt l
 clear hrA hpA hv1 hb1 hbA hflat k3 e1
 refine HS.out.mono ?_
 rintro e w2 ⟨rfl, hb2⟩
 have hs2 := hb2.size
 have HV2 := Lib.hid (Own.below HV1.out hb2 (Nat.le_refl _))
 have HB2 := Lib.hid (HB1.out.trans (hb2.mono (by omega)))
 obtain ⟨cs, hcse⟩ : ∃ cs, cs = Crc.sum l := ⟨_, rfl⟩
 rw [← hcse] at hcs ⊢
 have HCS := Lib.hid hcse
 have HU2 := Lib.hid (uint_tot (cs : Int) (by omega) w2)
 clear hb2 HV1 HB1 HS HU hcse
 go_wp2_with fail
 refine HU2.out.mono ?_
 rintro e w3 ⟨v3, rfl, hv3, hb3⟩
 have e2 : encI (cs : Int) = enc cs := by unfold encI; rw [if_neg (by omega)]; rfl
 rw [e2] at hv3
 obtain ⟨A3, c3, rfl, j1, j2, j3⟩ := bs_shape hv3
 have hs3 := hb3.size
 obtain ⟨_, _, q1, q2, q3, q4⟩ := bs_shape (Own.below HV2.out hb3 (Nat.le_refl _))
 injection q1 with q1 _ q1'
 subst q1 q1'
 have hbB : Below w3.heap.size w3 (w3.alloc (.cells [Row.val ⟨A1, enc many, c1⟩, Row.val ⟨A3, enc cs, c3⟩].toArray 27)) := (Below.refl _ w3).alloc (Nat.le_refl _) _
 have hrB : Rd (w3.alloc (.cells [Row.val ⟨A1, enc many, c1⟩, Row.val ⟨A3, enc cs, c3⟩].toArray 27)) (w3.alloc (.cells [Row.val ⟨A1, enc many, c1⟩, Row.val ⟨A3, enc cs, c3⟩].toArray 27)).heap.size (some ⟨w3.heap.size, 0, none⟩) ([⟨A1, enc many, c1⟩, ⟨A3, enc cs, c3⟩].map Row.val) := (rd_lit w3 27 [Row.val ⟨A1, enc many, c1⟩, Row.val ⟨A3, enc cs, c3⟩]).more (by simp)
 have hl1 : (enc many).length ≤ 10 := enc_len _ (by omega)
 have hl3 : (enc cs).length ≤ 10 := enc_len _ (by omega)
 have hpB : RRd (w3.alloc (.cells [Row.val ⟨A1, enc many, c1⟩, Row.val ⟨A3, enc cs, c3⟩].toArray 27)) (w3.alloc (.cells [Row.val ⟨A1, enc many, c1⟩, Row.val ⟨A3, enc cs, c3⟩].toArray 27)).heap.size [⟨A1, enc many, c1⟩, ⟨A3, enc cs, c3⟩] := fun p hp => by
  simp only [List.mem_cons, List.not_mem_nil, or_false] at hp
  rcases hp with rfl | rfl
  ·exact ⟨(q4.below hbB).more hbB.size, by show (enc many).length ≤ _; omega⟩
  ·exact ⟨(j3.below hbB).more hbB.size, by show (enc cs).length ≤ _; omega⟩
 have hflat : flat [⟨A1, enc many, c1⟩, ⟨A3, enc cs, c3⟩] = enc many ++ enc cs := by simp [flat]
 have HCL := Lib.hid (closed_any (some ⟨w3.heap.size, 0, none⟩) [⟨A1, enc many, c1⟩, ⟨A3, enc cs, c3⟩] 2 2 rfl _ hrB hpB (by simp) (by rw [hflat, List.length_append]; omega) (by simp))
 rw [hflat] at HCL
 have HB3 := Lib.hid ((HB2.out.trans (hb3.mono (by omega))).trans (hbB.mono (by omega)))
 have hsB := hbB.size
 clear hrB hpB hv3 hb3 hbB hflat j3 q4 e2 HV2 HB2 HU2
 go_wp2_with fail
 refine HCL.out.mono ?_
 rintro e w4 ⟨v4, rfl, hg4, hb4⟩
 obtain ⟨A4, c4, rfl, _, _, _⟩ := hg4.shape
 have HF := Lib.hid (And.intro (hg4.mono (by omega : w.heap.size ≤ _)) (HB3.out.trans (hb4.mono (by omega))))
 clear hg4 hb4 HCL
 go_wp2_with fail
 go_ret
 refine ⟨_, rfl, ?_, HF.out.2⟩
 have h := HF.out.1
 unfold footS
 rw [← HCS.out]
 exact h
def sName (n : Int) : Nm := 115 :: Lib.itoa n
set_option maxHeartbeats 1000000 in
theorem kname_any (n : Int) (hn : -9223372036854775808 ≤ n ∧ n ≤ 9223372036854775807) (w : World) (ht : Tab w) :
  Calls Tryz.prog 26 #[.int .i64 n] w fun e w' => e = .returned (.string (str (sName n))) ∧ Below w.heap.size w w' := by
 have HT := Lib.hid (text_str n hn w ht)
 have hsz : (str (Lib.itoa n)).size ≤ 21 := by
  have := Lib.itoa_length_le n hn.1 hn.2
  show (Lib.itoa n).toArray.size ≤ 21
  simpa using this
 clear ht hn
 go_enter Tryz.func26, Tryz.ntmps26
 go_wp2_with fail
 refine HT.out.mono ?_
 rintro e w' ⟨rfl, hb⟩
 have HB := Lib.hid hb
 clear hb HT
 go_wp2_with fail
 go_ret
 refine ⟨?_, HB.out⟩
 have e : (⟨#[115]⟩ : ByteArray) ++ str (Lib.itoa n) = str (sName n) := by
  apply WideShapes.bytes_inj
  simp [str, sName]
 rw [← e]
 rfl
theorem sName_len (n : Int) (hn : -9223372036854775808 ≤ n ∧ n ≤ 9223372036854775807) : (sName n).length ≤ 22 := by
 have := Lib.itoa_length_le n hn.1 hn.2
 unfold sName
 simp
 omega
end Go.Proofs.YteehkcpokgeipaaGreatDoor
set_option linter.unusedVariables false
namespace Go.Proofs.YteehkcpokgeipaaGreatDoor
open Go.RowKit Go.Shelf Oct
attribute [local go_sem] Oper.semAt_some
def fileL (l : List UInt8) : List (List UInt8) := (chunksL l).map closeS ++ [footS (chunksL l).length l]
theorem own_keepB {w w' : World} {base : Nat} {e : TypeId} {v : Value} {xs : List Value} (hg : Own w base e v xs) (h : ∀ q, v.ownBlock = some q → w'.heap[q]? = w.heap[q]?) : Own w' base e v xs := by
 refine ⟨hg.1, ?_⟩
 rcases hg.2 with h2 | ⟨g, cap, cur, hv, hb2, hg2, r⟩
 ·exact .inl h2
 ·exact .inr ⟨g, cap, cur, hv, hb2, (h g (by rw [hv]; rfl)).trans hg2, r⟩
theorem GotRows.grown_off {w w' : World} {base : Nat} {v : Value} {xs : List Value} {ls : List (List UInt8)} (h : GotRows w base v xs ls) {row : Option Nat} (hg : w.grownBy w' row) (hr : ∀ r, row = some r → ∃ o : Obj, w.heap[r]? = some o ∧ o.isCells = false) : GotRows w' base v xs ls := by
 refine ⟨own_keepB h.own (fun q hq => ?_), h.len, fun i hi hi' => (h.got i hi hi').kept (fun q hq => ?_) hg.size, h.apart, h.off⟩
 ·obtain ⟨cs, hc⟩ := ownsRow_held h.own hq
  exact grownBy_off hg hr hc
 ·obtain ⟨cs, hc⟩ := (h.got i hi hi').row.held hq
  exact grownBy_off hg hr hc
theorem GotRows.far {w w' : World} {base g : Nat} {v : Value} {xs : List Value} {ls : List (List UInt8)} (h : GotRows w base v xs ls) (hg : w.grownBy w' (some g)) (hlt : g < base) : GotRows w' base v xs ls := by
 refine ⟨own_keepB h.own (fun q hq => ?_), h.len, fun i hi hi' => (h.got i hi hi').kept (fun q hq => ?_) hg.size, h.apart, h.off⟩
 ·have := h.own.lt q hq
  exact hg.block q this.2 (fun e => by injection e with e; omega)
 ·have h1 := (h.got i hi hi').row.base q hq
  exact hg.block q ((h.got i hi hi').row.lt q hq) (fun e => by injection e with e; omega)
theorem GotRows.mono {w : World} {base base' : Nat} {v : Value} {xs : List Value} {ls : List (List UInt8)} (h : GotRows w base v xs ls) (hb : base' ≤ base) : GotRows w base' v xs ls :=
 ⟨Own.mono h.own hb, h.len, fun i hi hi' => (h.got i hi hi').mono hb, h.apart, h.off⟩
set_option maxHeartbeats 4000000 in
set_option maxRecDepth 100000 in
theorem file_any (A : Option Addr) (l : List UInt8) (c : Nat) (w : World) (hr : Rd w w.heap.size A (cells l)) (hlc : l.length ≤ c) (hl : l.length ≤ 40000000) :
  Calls Tryz.prog 15 #[.slice A l.length c] w fun e w' => ∃ v xs, e = .returned v ∧ GotRows w' w.heap.size v xs (fileL l) ∧ Below w.heap.size w w' := by
 have HR := Lib.hid hr
 refine (callsIn_wide (n := 9)).1 ?_
 refine callsIn_of_wp_marks Tryz.func15 rfl trivial ?_ rfl
 simp only [Tryz.ntmps15, List.size_toArray, List.length_cons, List.length_nil, Nat.reduceAdd, Nat.reduceSub, Array.replicate_succ, Array.replicate_zero, List.push_toArray, List.append_toArray, List.nil_append, List.cons_append]
 gi_wp2_with fail
 refine ⟨trivial, (callsIn_wide.2 (chunk_any A l.length c _)).mono ?_⟩
 rintro e w2 ⟨rfl, rfl⟩
 gi_wp2_with fail
 have K1 : Blk (((w.alloc (Obj.cells #[Value.slice none 0 0] 54)).alloc (Obj.cells #[Value.slice A l.length c] 27)).alloc (Obj.cells #[Value.int IntKind.i64 400] 3)) (w.heap.size + 1) 27 #[.slice A l.length c] := by
  have h := Blk.new (w.alloc (Obj.cells #[Value.slice none 0 0] 54)) 27 #[.slice A l.length c]
  rw [show (w.alloc (Obj.cells #[Value.slice none 0 0] 54)).heap.size = w.heap.size + 1 by simp] at h
  exact h.alloc _
 have K2 : Blk (((w.alloc (Obj.cells #[Value.slice none 0 0] 54)).alloc (Obj.cells #[Value.slice A l.length c] 27)).alloc (Obj.cells #[Value.int IntKind.i64 400] 3)) (w.heap.size + 1 + 1) 3 #[.int .i64 400] := by
  have h := Blk.new ((w.alloc (Obj.cells #[Value.slice none 0 0] 54)).alloc (Obj.cells #[Value.slice A l.length c] 27)) 3 #[.int .i64 400]
  rw [show ((w.alloc (Obj.cells #[Value.slice none 0 0] 54)).alloc (Obj.cells #[Value.slice A l.length c] 27)).heap.size = w.heap.size + 1 + 1 by simp] at h
  exact h
 have K0 : Boxed (((w.alloc (Obj.cells #[Value.slice none 0 0] 54)).alloc (Obj.cells #[Value.slice A l.length c] 27)).alloc (Obj.cells #[Value.int IntKind.i64 400] 3)) w.heap.size 54 (.slice none 0 0) := ((Boxed.new w 54 (.slice none 0 0)).alloc _).alloc _
 have hbL : Below w.heap.size w (((w.alloc (Obj.cells #[Value.slice none 0 0] 54)).alloc (Obj.cells #[Value.slice A l.length c] 27)).alloc (Obj.cells #[Value.int IntKind.i64 400] 3)) := (((Below.refl _ w).alloc (Nat.le_refl _) _).alloc (by simp) _).alloc (by simp; omega) _
 have HZ : Hid ((((w.alloc (Obj.cells #[Value.slice none 0 0] 54)).alloc (Obj.cells #[Value.slice A l.length c] 27)).alloc (Obj.cells #[Value.int IntKind.i64 400] 3)).heap.size = w.heap.size + 3) := Lib.hid (by simp)
 generalize hWL : ((w.alloc (Obj.cells #[Value.slice none 0 0] 54)).alloc (Obj.cells #[Value.slice A l.length c] 27)).alloc (Obj.cells #[Value.int IntKind.i64 400] 3) = WL at K0 K1 K2 hbL HZ ⊢
 clear hWL
 refine wpIn_rangeFunc_ownG (by rfl) (by omega) (gf := 99) (lb := #[.pointer (some ⟨w.heap.size + 1, 0, none⟩), .pointer (some ⟨w.heap.size + 1 + 1, 0, none⟩)]) rfl trivial (enters_of Tryz.func99 (by kernel_rfl) rfl)
  (chunk_stops (9 - 1) (by omega) (w.heap.size + 1) (w.heap.size + 1 + 1) 100001 A l.length c hlc (by omega) (fun k hk => by omega) _ K1 K2)
  (fun h k => ⟨k.1.trans h.1, k.2.trans h.2⟩) (fun W q o o' hq _ _ _ => ⟨World.putObj_heap_other (by rw [HZ.out] at hq; omega), World.putObj_heap_other (by rw [HZ.out] at hq; omega)⟩) (Below.refl _ _) (fun _ => rfl)
  (fun pre W => (∃ v xs, Boxed W w.heap.size 54 v ∧ GotRows W (w.heap.size + 3) v xs ((ckLs l pre).map closeS)) ∧ Below w.heap.size w W ∧ w.heap.size + 3 ≤ W.heap.size ∧ pre.length = (ckLs l pre).length) (fun _ _ _ => False)
  (fun pre X Y row hs hg hr => by
   obtain ⟨⟨v, xs, hbx, hp⟩, hbe, hsz, hln⟩ := hs
   exact ⟨⟨v, xs, (grownBy_off hg (fun r e => (hr r e).2) hbx).trans hbx, hp.grown_off hg (fun r e => (hr r e).2)⟩, hbe.grown hg hbe.size (fun k e => by have := (hr k e).1; rw [HZ.out] at this; omega), Nat.le_trans hsz hg.size, hln⟩)
  (fun _ _ _ _ _ h _ _ => h) ⟨⟨_, [], K0, GotRows.nil _ _⟩, hbL, by rw [HZ.out]; exact Nat.le_refl _, rfl⟩
  (fun x => { tmps := #[Value.slice A l.length c, undef, Value.slice none 0 0, Value.pointer (some ⟨w.heap.size, 0, none⟩), (Value.slice (cutA A (400 * x.1) (ckEnd l.length x.1)) (ckEnd l.length x.1 - 400 * x.1) (ckEnd l.length x.1 - 400 * x.1)), Value.slice A l.length c, Value.func (Fn.func 99) #[] #[Value.pointer (some ⟨w.heap.size + 1, 0, none⟩), Value.pointer (some ⟨w.heap.size + 1 + 1, 0, none⟩)], (Value.slice (cutA A (400 * x.1) (ckEnd l.length x.1)) (ckEnd l.length x.1 - 400 * x.1) (ckEnd l.length x.1 - 400 * x.1)), undef, undef, undef, undef, undef, undef, undef, undef, undef, undef, undef, undef, undef], defers := [] }) ?assign ?body ?done ?stop
 case stop => intro D c pre W _ _ h; exact h.elim
 case assign =>
  intro q x W K hK
  gi_wp2
  exact hK
 case body =>
  rintro q pre x W ⟨⟨v, xs, hBx, hG⟩, hbe, hsW, hln⟩ hlen
  obtain ⟨Av', cv', rfl, hcv1, hcv2, hcv3⟩ := Own.shape hG.own
  have hrL : Rd W w.heap.size A (cells l) := HR.out.below hbe
  have hck := rd_ck hrL x.2
  have c0 := hBx.cell
  have HG := Lib.hid hG
  have hckl : (ckL l x.1).length ≤ 400 := ckL_le
  have HCK := Lib.hid (show (ckL l x.1).length = ckEnd l.length x.1 - 400 * x.1 from ckL_length)
  obtain ⟨N, hN⟩ : ∃ N, N = ckEnd l.length x.1 - 400 * x.1 := ⟨_, rfl⟩
  obtain ⟨Ac, hAc⟩ : ∃ Ac, Ac = cutA A (400 * x.1) (ckEnd l.length x.1) := ⟨_, rfl⟩
  rw [← hN] at HCK ⊢
  rw [← hAc] at hck ⊢
  have hNl : N ≤ 400 := by rw [← HCK.out]; exact hckl
  have HRC := Lib.hid hck
  clear hG hrL hck hN hAc
  gi_wp2_with fail
  refine wpIn_region_roundT q 6 (by kernel_rfl) (fun _ _ h => h) (by kernel_rfl) (S := fun W' => W'.cell? ⟨w.heap.size, 0, none⟩ = some (.slice Av' xs.length cv') ∧ True ∧ True ∧ True) ⟨c0, trivial, trivial, trivial⟩ (fun hHeld => ?_)
  refine heldT_take 0 (v := ?_) (by simp) (by kernel_rfl) (by kernel_rfl) (by kernel_rfl) (by kernel_rfl) (fun _ _ _ h => h) (Or.inl ⟨by rfl, ?_⟩) hHeld ?_
  case refine_2 => (intro w hSw; (try dsimp only at hSw); (try (obtain ⟨s0, s1, s2, s3⟩ := hSw)); simp only [List.getElem_cons_zero]; go_simp <;> with_reducible rfl)
  simp only [List.getElem_cons_zero, Act.put, List.setIfInBounds_toArray, List.set_cons_zero, List.set_cons_succ]
  refine heldT_take 1 (v := ?_) (by simp) (by kernel_rfl) (by kernel_rfl) (by kernel_rfl) (by kernel_rfl) (fun _ _ _ h => h) (Or.inl ⟨by rfl, ?_⟩) hHeld ?_
  case refine_2 => (intro w hSw; (try dsimp only at hSw); (try (obtain ⟨s0, s1, s2, s3⟩ := hSw)); simp only [List.getElem_cons_zero, List.getElem_cons_succ]; go_simp <;> with_reducible rfl)
  simp only [List.getElem_cons_zero, List.getElem_cons_succ, Act.put, List.setIfInBounds_toArray, List.set_cons_zero, List.set_cons_succ]
  refine heldT_sole 2 (by simp) (by kernel_rfl) (fun K hK => ?_)
  simp only [List.getElem_cons_zero, List.getElem_cons_succ]
  go_simp
  have hbA : Below W.heap.size W (W.alloc (.cells #[.slice Ac N N] 27)).drew := ((Below.refl _ W).alloc (Nat.le_refl _) _).drew
  have hrv : Row.val ⟨Ac, ckL l x.1, N⟩ = .slice Ac N N := by unfold Row.val; rw [HCK.out]
  have hrA : Rd (W.alloc (.cells #[.slice Ac N N] 27)).drew (W.alloc (.cells #[.slice Ac N N] 27)).drew.heap.size (some ⟨W.heap.size, 0, none⟩) ([⟨Ac, ckL l x.1, N⟩].map Row.val) := by
   have h := rd_lit W 27 [.slice Ac N N]
   rw [List.map_cons, List.map_nil, hrv]
   exact (show Rd (W.alloc (.cells [.slice Ac N N].toArray 27)).drew _ _ _ from h).more (by simp)
  have hpA : RRd (W.alloc (.cells #[.slice Ac N N] 27)).drew (W.alloc (.cells #[.slice Ac N N] 27)).drew.heap.size [⟨Ac, ckL l x.1, N⟩] := fun p hp => by
   obtain rfl := List.mem_singleton.1 hp
   exact ⟨((HRC.out.more (by omega : w.heap.size ≤ W.heap.size)).below hbA).more hbA.size, by show (ckL l x.1).length ≤ _; omega⟩
  have HKOA := Lib.hid (show KeepsOthers W (W.alloc (.cells #[.slice Ac N N] 27)).drew from (KeepsOthers.alloc W (.cells #[.slice Ac N N] 27)).trans (KeepsOthers.drew _))
  have hflat : flat [⟨Ac, ckL l x.1, N⟩] = ckL l x.1 := by simp [flat]
  have HCL := Lib.hid (closed_any (some ⟨W.heap.size, 0, none⟩) [⟨Ac, ckL l x.1, N⟩] 1 1 rfl _ hrA hpA (by simp) (by rw [hflat]; omega) (by simp))
  rw [hflat] at HCL
  have c0A := (hbA.cell (p := ⟨w.heap.size, 0, none⟩) (by show w.heap.size < W.heap.size; omega)).trans c0
  have HBA := Lib.hid hbA
  generalize (W.alloc (.cells #[.slice Ac N N] 27)).drew = WA at HKOA HCL c0A HBA ⊢
  clear hrA hpA hflat hbA hrv
  refine hK.out _ _ ⟨c0A, trivial, trivial, trivial⟩ (fun hHeld => ?_)
  clear hK K
  try simp only [Act.put, List.setIfInBounds_toArray, List.set_cons_zero, List.set_cons_succ]
  refine heldT_sole 3 (by simp) (by kernel_rfl) (fun K hK => ?_)
  simp only [List.getElem_cons_zero, List.getElem_cons_succ]
  go_simp
  refine HCL.out.mono ?_
  rintro e W1 ⟨v3, rfl, hg3, hb3⟩
  obtain ⟨A3, c3, rfl, _, _, _⟩ := hg3.shape
  have hsWA := HBA.out.size
  have HX3 := Lib.hid (hg3.mono hsWA)
  have HB3 := Lib.hid (HBA.out.trans (hb3.mono hsWA))
  have HKO3 := Lib.hid (HKOA.out.trans (KeepsOthers.of_grownBy (grown_of_below hb3 none) (fun _ _ h => by cases h)))
  have c03 : W1.cell? ⟨w.heap.size, 0, none⟩ = some (.slice Av' xs.length cv') := (hb3.cell (p := ⟨w.heap.size, 0, none⟩) (by show w.heap.size < WA.heap.size; omega)).trans c0A
  have hs3 := HB3.out.size
  clear hg3 hb3 HCL
  go_wp2_with fail
  refine hK.out _ _ ⟨c03, trivial, trivial, trivial⟩ (fun hHeld => ?_)
  clear hK K
  try simp only [Act.put, List.setIfInBounds_toArray, List.set_cons_zero, List.set_cons_succ]
  refine heldT_sole 4 (by simp) (by kernel_rfl) (fun K hK => ?_)
  simp only [List.getElem_cons_zero, List.getElem_cons_succ]
  go_simp
  have hbB : Below W1.heap.size W1 (W1.alloc (.cells #[.slice A3 (closeS (ckL l x.1)).length c3] 27)) := (Below.refl _ W1).alloc (Nat.le_refl _) _
  have hrB := rd_lit W1 27 [.slice A3 (closeS (ckL l x.1)).length c3]
  have HKO4 := Lib.hid (HKO3.out.trans (KeepsOthers.alloc W1 (.cells #[.slice A3 (closeS (ckL l x.1)).length c3] 27)))
  have c04 := (hbB.cell (p := ⟨w.heap.size, 0, none⟩) (by show w.heap.size < W1.heap.size; omega)).trans c03
  have HX4 := Lib.hid (HX3.out.below hbB (Nat.le_refl _))
  have HB4 := Lib.hid (HB3.out.trans (hbB.mono hs3))
  have hrB' : Rd (W1.alloc (.cells #[.slice A3 (closeS (ckL l x.1)).length c3] 27)) (W1.heap.size + 1) (some ⟨W1.heap.size, 0, none⟩) [.slice A3 (closeS (ckL l x.1)).length c3] := hrB
  have hsB : (W1.alloc (.cells #[.slice A3 (closeS (ckL l x.1)).length c3] 27)).heap.size = W1.heap.size + 1 := by simp
  generalize W1.alloc (.cells #[.slice A3 (closeS (ckL l x.1)).length c3] 27) = WB at hbB HKO4 c04 HX4 HB4 hrB' hsB ⊢
  have HG4 := Lib.hid (HG.out.below HB4.out (Nat.le_refl _))
  clear hbB hrB
  refine hK.out _ _ ⟨c04, trivial, trivial, trivial⟩ (fun hHeld => ?_)
  clear hK K
  try simp only [Act.put, List.setIfInBounds_toArray, List.set_cons_zero, List.set_cons_succ]
  refine heldT_sole 5 (by simp) (by kernel_rfl) (fun K hK => ?_)
  simp only [List.getElem_cons_zero, List.getElem_cons_succ]
  rw [if_pos (by rfl)]
  refine wp_append_any (.tmp 8) (.tmp 12) 54 rfl (w.heap.size + 3) 27 (.slice none 0 0) 24 Tryz.underlying54 info_bytes rfl _ xs rfl HG4.out.own (W1.heap.size + 1) (some ⟨W1.heap.size, 0, none⟩) 1 1 [.slice A3 (closeS (ckL l x.1)).length c3] rfl rfl hrB' (by simp [Value.oneCell']) (by rw [HG.out.len, List.length_map, ← hln]; unfold maxLen; omega) (by rw [HG.out.len, List.length_map, ← hln]; omega) (by omega) ?_
  intro v4 w4 hown4 hg4 hf4
  have HP := Lib.hid (GotRows.push HG.out HB4.out HX4.out (by omega) hown4 hg4 hf4)
  have hb4 : Below (w.heap.size + 3) WB w4 := (Below.refl _ WB).grown hg4 (by omega) (fun k hk => (HG4.out.own.lt k hk).1)
  have HKO5 := Lib.hid (HKO4.out.trans (KeepsOthers.of_grownBy hg4 (fun j o hj ho => by obtain ⟨cs, hc⟩ := ownsRow_held HG4.out.own hj; rw [hc] at ho; cases ho; rfl)))
  obtain ⟨A4, c4, rfl, _, _, _⟩ := Own.shape HP.out.own
  have c05 : w4.cell? ⟨w.heap.size, 0, none⟩ = some (.slice Av' xs.length cv') := (hb4.cell (p := ⟨w.heap.size, 0, none⟩) (by show w.heap.size < w.heap.size + 3; omega)).trans c04
  have HB5 := Lib.hid ((HB4.out.mono (show w.heap.size + 3 ≤ W.heap.size from hsW)).trans hb4)
  have hBx4 : Boxed w4 w.heap.size 54 (.slice Av' xs.length cv') := (HB5.out.block _ (by omega)).trans hBx
  have f0 := hBx4.frozen
  clear hown4 hg4 hf4 hb4 hrB'
  refine hK.out _ _ ⟨c05, trivial, trivial, trivial⟩ (fun hHeld => ?_)
  clear hK K
  try simp only [Act.put, List.setIfInBounds_toArray, List.set_cons_zero, List.set_cons_succ]
  refine heldT_last (t := 6) (by simp) (by kernel_rfl) (by kernel_rfl) (fun K hK => ?_)
  simp only [List.getElem_cons_zero, List.getElem_cons_succ]
  go_simp
  refine hK.out _ _ ?_
  have hP5 := HP.out
  rw [List.length_append, List.length_singleton] at hP5
  have hBx5 : Boxed (w4.setCell ⟨w.heap.size, 0, none⟩ (.slice A4 (xs.length + 1) c4)) w.heap.size 54 (.slice A4 (xs.length + 1) c4) := hBx4.set _
  have hLs : (ckLs l (pre ++ [x])).map closeS = (ckLs l pre).map closeS ++ [closeS (ckL l x.1)] := by simp [ckLs]
  refine ⟨(HKO5.out.trans (KeepsOthers.setCell _ _ _)).from _, ⟨?_, ?_⟩, ⟨_, xs ++ [.slice A3 (closeS (ckL l x.1)).length c3], hBx5, ?_⟩, ?_, ?_, ?_⟩
  ·exact (Below.heap_setCell _ _ _ _ (by show w.heap.size + 1 ≠ w.heap.size; omega)).trans (HB5.out.block _ (by omega))
  ·exact (Below.heap_setCell _ _ _ _ (by show w.heap.size + 1 + 1 ≠ w.heap.size; omega)).trans (HB5.out.block _ (by omega))
  ·rw [hLs]
   exact hP5.far (grown_setCell w4 w.heap.size 0 _) (by show w.heap.size < w.heap.size + 3; omega)
  ·exact (hbe.trans (HB5.out.mono (by omega))).setCell (p := ⟨w.heap.size, 0, none⟩) (Nat.le_refl _) _
  ·have := HB5.out.size
   simp
   omega
  ·simp [ckLs]
 case done =>
  rintro D ys W hD hall ⟨⟨v, xs, hBx, hG⟩, hbe, hsW, hln⟩ hDef
  obtain ⟨Av', cv', rfl, hcv1, hcv2, hcv3⟩ := Own.shape hG.own
  rw [ckLs_all hall] at hG
  have HG := Lib.hid hG
  have HD := Lib.hid hDef
  have hl3 : xs.length ≤ 100001 := by rw [hG.len, List.length_map, chunksL_length]; omega
  have c0 := hBx.cell
  rw [HZ.out] at hD
  have hDl : D < W.heap.size := (Array.getElem?_eq_some_iff.1 hDef).1
  have HFT := Lib.hid (foot_any xs.length (by omega) A l c W.drew ((HR.out.below hbe).more hbe.size) (by omega))
  have HBE := Lib.hid hbe
  clear hG hDef hcv3
  gi_wp2_with fail
  refine wpIn_wide.2 ?_
  refine wp_region_noPanic ?_
  refine wp_region_held_drew (S := fun W' => W'.cell? ⟨w.heap.size, 0, none⟩ = some (.slice Av' xs.length cv') ∧ True ∧ True ∧ True) (by kernel_rfl) ⟨c0, trivial, trivial, trivial⟩ (fun hHeld => ?_)
  refine held_take 0 (v := ?_) (by simp) (by kernel_rfl) (by kernel_rfl) (by kernel_rfl) (fun _ _ _ h => h) (Or.inl ⟨by rfl, ?_⟩) hHeld ?_
  case refine_2 => (intro w hSw; (try dsimp only at hSw); (try (obtain ⟨s0, s1, s2, s3⟩ := hSw)); simp only [List.getElem_cons_zero]; go_simp <;> with_reducible rfl)
  simp only [List.getElem_cons_zero, Act.put, List.setIfInBounds_toArray, List.set_cons_zero, List.set_cons_succ]
  refine held_take 1 (v := ?_) (by simp) (by kernel_rfl) (by kernel_rfl) (by kernel_rfl) (fun _ _ _ h => h) (Or.inl ⟨by rfl, ?_⟩) hHeld ?_
  case refine_2 => (intro w hSw; (try dsimp only at hSw); (try (obtain ⟨s0, s1, s2, s3⟩ := hSw)); simp only [List.getElem_cons_zero, List.getElem_cons_succ]; go_simp <;> with_reducible rfl)
  simp only [List.getElem_cons_zero, List.getElem_cons_succ, Act.put, List.setIfInBounds_toArray, List.set_cons_zero, List.set_cons_succ]
  refine held_take 2 (v := ?_) (by simp) (by kernel_rfl) (by kernel_rfl) (by kernel_rfl) (fun _ _ _ h => h) (Or.inl ⟨by rfl, ?_⟩) hHeld ?_
  case refine_2 => (intro w hSw; (try dsimp only at hSw); (try (obtain ⟨s0, s1, s2, s3⟩ := hSw)); simp only [List.getElem_cons_zero, List.getElem_cons_succ]; go_simp <;> with_reducible rfl)
  simp only [List.getElem_cons_zero, List.getElem_cons_succ, Act.put, List.setIfInBounds_toArray, List.set_cons_zero, List.set_cons_succ]
  refine held_take 3 (v := ?_) (by simp) (by kernel_rfl) (by kernel_rfl) (by kernel_rfl) (fun _ _ _ h => h) (Or.inl ⟨by rfl, ?_⟩) hHeld ?_
  case refine_2 => (intro w hSw; (try dsimp only at hSw); (try (obtain ⟨s0, s1, s2, s3⟩ := hSw)); simp only [List.getElem_cons_zero, List.getElem_cons_succ]; go_simp <;> with_reducible rfl)
  simp only [List.getElem_cons_zero, List.getElem_cons_succ, Act.put, List.setIfInBounds_toArray, List.set_cons_zero, List.set_cons_succ]
  refine held_sole 4 (by simp) (by kernel_rfl) (fun K hK => ?_)
  simp only [List.getElem_cons_zero, List.getElem_cons_succ]
  go_simp
  refine HFT.out.mono ?_
  rintro e W1 ⟨v3, rfl, hg3, hb3⟩
  change Got W1 W.heap.size _ _ at hg3
  change Below W.heap.size W.drew W1 at hb3
  obtain ⟨A3, c3, rfl, _, _, _⟩ := hg3.shape
  have hb3' : Below W.heap.size W W1 := ((Below.refl _ W).drew).trans hb3
  have hX3 := Lib.hid hg3
  have hs3 := hb3'.size
  have c03 : W1.cell? ⟨w.heap.size, 0, none⟩ = some (.slice Av' xs.length cv') := (hb3'.cell (p := ⟨w.heap.size, 0, none⟩) (by show w.heap.size < W.heap.size; omega)).trans c0
  have HD1 := Lib.hid (show W1.heap[D]? = some (.deferred (some [])) from (hb3'.block _ hDl).trans HD.out)
  have HB3 := Lib.hid hb3'
  clear hb3 hb3' hg3
  refine hK.out _ _ ⟨c03, trivial, trivial, trivial⟩ (fun hHeld => ?_)
  clear hK K
  try simp only [Act.put, List.setIfInBounds_toArray, List.set_cons_zero, List.set_cons_succ]
  refine held_sole 5 (by simp) (by kernel_rfl) (fun K hK => ?_)
  simp only [List.getElem_cons_zero, List.getElem_cons_succ]
  go_simp
  have hbB : Below W1.heap.size W1 (W1.alloc (.cells #[.slice A3 (footS xs.length l).length c3] 27)) := (Below.refl _ W1).alloc (Nat.le_refl _) _
  have hrB := rd_lit W1 27 [.slice A3 (footS xs.length l).length c3]
  have c04 := (hbB.cell (p := ⟨w.heap.size, 0, none⟩) (by show w.heap.size < W1.heap.size; omega)).trans c03
  have hX4 := Lib.hid (hX3.out.below hbB (Nat.le_refl _))
  have HD2 := Lib.hid (show (W1.alloc (.cells #[.slice A3 (footS xs.length l).length c3] 27)).heap[D]? = some (.deferred (some [])) from (hbB.block _ (by omega)).trans HD1.out)
  have HB4 := Lib.hid (HB3.out.trans (hbB.mono hs3))
  have hrB' : Rd (W1.alloc (.cells #[.slice A3 (footS xs.length l).length c3] 27)) (W1.heap.size + 1) (some ⟨W1.heap.size, 0, none⟩) [.slice A3 (footS xs.length l).length c3] := hrB
  have hsB : (W1.alloc (.cells #[.slice A3 (footS xs.length l).length c3] 27)).heap.size = W1.heap.size + 1 := by simp
  generalize W1.alloc (.cells #[.slice A3 (footS xs.length l).length c3] 27) = WB at hbB c04 hX4 HD2 HB4 hrB' hsB ⊢
  have HG4 := Lib.hid (HG.out.below HB4.out (by omega))
  clear hbB hrB
  refine hK.out _ _ ⟨c04, trivial, trivial, trivial⟩ (fun hHeld => ?_)
  clear hK K
  try simp only [Act.put, List.setIfInBounds_toArray, List.set_cons_zero, List.set_cons_succ]
  refine held_sole 6 (by simp) (by kernel_rfl) (fun K hK => ?_)
  simp only [List.getElem_cons_zero, List.getElem_cons_succ]
  rw [if_pos (by rfl)]
  refine wp_append_any (.tmp 14) (.tmp 19) 54 rfl (w.heap.size + 3) 27 (.slice none 0 0) 24 Tryz.underlying54 info_bytes rfl _ xs rfl HG4.out.own (W1.heap.size + 1) (some ⟨W1.heap.size, 0, none⟩) 1 1 [.slice A3 (footS xs.length l).length c3] rfl rfl hrB' (by simp [Value.oneCell']) (by unfold maxLen; omega) (by omega) (by omega) ?_
  intro v4 w4 hown4 hg4 hf4
  have HP := Lib.hid (GotRows.push HG.out HB4.out hX4.out (by omega) hown4 hg4 hf4)
  have hb4 : Below (w.heap.size + 3) WB w4 := (Below.refl _ WB).grown hg4 (by omega) (fun k hk => (HG4.out.own.lt k hk).1)
  have HD3 := Lib.hid (show w4.heap[D]? = some (.deferred (some [])) from (hg4.block D (Array.getElem?_eq_some_iff.1 HD2.out).1 (fun e => by obtain ⟨cs, hc⟩ := ownsRow_held HG4.out.own (show (Value.slice Av' xs.length cv').ownBlock = some D from e.symm); rw [HD2.out] at hc; cases hc)).trans HD2.out)
  obtain ⟨A4, c4, rfl, _, _, _⟩ := Own.shape HP.out.own
  have c05 : w4.cell? ⟨w.heap.size, 0, none⟩ = some (.slice Av' xs.length cv') := (hb4.cell (p := ⟨w.heap.size, 0, none⟩) (by show w.heap.size < w.heap.size + 3; omega)).trans c04
  have HB5 := Lib.hid ((HB4.out.mono (show w.heap.size + 3 ≤ W.heap.size from hsW)).trans hb4)
  clear hown4 hg4 hf4 hb4 hrB'
  refine hK.out _ _ ⟨c05, trivial, trivial, trivial⟩ (fun hHeld => ?_)
  clear hK K
  try simp only [Act.put, List.setIfInBounds_toArray, List.set_cons_zero, List.set_cons_succ]
  refine held_take 7 (v := ?_) (by simp) (by kernel_rfl) (by kernel_rfl) (by kernel_rfl) (fun _ _ _ h => h) (Or.inl ⟨by rfl, ?_⟩) hHeld ?_
  case refine_2 => (intro w hSw; (try dsimp only at hSw); (try (obtain ⟨s0, s1, s2, s3⟩ := hSw)); simp only [List.getElem_cons_zero, List.getElem_cons_succ]; go_simp <;> with_reducible rfl)
  simp only [List.getElem_cons_zero, List.getElem_cons_succ, Act.put, List.setIfInBounds_toArray, List.set_cons_zero, List.set_cons_succ]
  refine wpAnyH_done (by kernel_rfl) ?_ _
  have hP5 := HP.out
  have hBE5 := Lib.hid (HBE.out.trans (HB5.out.mono (by omega)))
  have hs4 : w.heap.size ≤ w4.heap.size := hBE5.out.size
  have hHL := hln
  clear c0 c03 c04 c05 hHeld
  refine NoPanic.normal ?_
  gi_wp2_with fail
  have hxl : xs.length = (chunksL l).length := by rw [HG.out.len, List.length_map]
  have hP6 := (hP5.grown_off (grownBy_putObj' w4 D (.deferred none)) (fun r e => by cases e; exact ⟨_, HD3.out, rfl⟩)).mono (show w.heap.size ≤ w.heap.size + 3 by omega)
  have hbF := hBE5.out.trans (belowK_b (w := w) (Nat.le_refl _) w4 D _ (.deferred none) (by omega) HD3.out rfl rfl)
  refine ⟨by simp, .inl ⟨_, _, rfl, run_takeDeferred HD3.out, ?_⟩⟩
  rw [List.length_append, List.length_singleton] at hP6
  refine ⟨_, results_tmp rfl _ _ _, _, xs ++ [.slice A3 (footS xs.length l).length c3], rfl, ?_, hbF⟩
  unfold fileL
  rw [← hxl]
  exact hP6
end Go.Proofs.YteehkcpokgeipaaGreatDoor
set_option linter.unusedVariables false
set_option linter.unusedSimpArgs false
namespace Go.Proofs.YteehkcpokgeipaaGreatDoor
open Go.RowKit Oct
def allS (b : List UInt8) : List UInt8 := ((rowsS b).1.take ((rowsS b).1.length - 1)).flatten
def openB (b : List UInt8) (ix : Int) : Bool := decide ((rowsS b).2.2 = 0) && decide (2 ≤ (rowsS b).1.length) && decide ((fileL (allS b)).flatten = b) && (decide (oE (allS b) = 0) && decide (oI (allS b) = ix))
theorem openS_le {l : List UInt8} (h : (openS l).2.2 = 0) : (openS l).1.length ≤ (openS l).2.1 := by
 unfold openS at h ⊢
 split at h
 ·rename_i h1; exact absurd h h1
 ·rename_i h1
  split at h
  ·cases h
  ·rename_i h2
   split at h
   ·cases h
   ·rename_i h3
    split at h
    ·rename_i h4
     rw [if_neg h1, if_neg h2, if_neg h3, if_pos h4]
     simp only [List.length_take]
     unfold endS
     omega
    ·cases h
theorem rowsF_sum (l : List UInt8) (f : Nat) : ∀ a, a ≤ l.length → (rowsF l f a).1.flatten.length ≤ l.length - a := by
 induction f with
 | zero => intro a _; simp [rowsF]
 | succ f ih =>
  intro a ha
  unfold rowsF
  by_cases h1 : l.length ≤ a
  ·simp [h1]
  ·rw [if_neg h1]
   by_cases h2 : (openS (l.drop a)).2.2 = 0
   ·rw [if_pos h2]
    obtain ⟨_, h3, h4, _⟩ := open_form h2
    have h5 := openS_le h2
    rw [List.length_drop] at h4
    have := ih (a + (openS (l.drop a)).2.1) (by omega)
    simp only [List.flatten_cons, List.length_append]
    omega
   ·rw [if_neg h2]
    simp
theorem take_flat_le (ls : List (List UInt8)) (k : Nat) : (ls.take k).flatten.length ≤ ls.flatten.length := by
 induction ls generalizing k with
 | nil => simp
 | cons x r ih =>
  cases k with
  | zero => simp
  | succ k =>
   have := ih k
   simp only [List.take_succ_cons, List.flatten_cons, List.length_append]
   omega
theorem allS_len (b : List UInt8) : (allS b).length ≤ b.length := by
 unfold allS
 have h1 := take_flat_le (rowsS b).1 ((rowsS b).1.length - 1)
 have h2 := rowsF_sum b (b.length + 1) 0 (by omega)
 unfold rowsS at h1 ⊢
 omega
theorem flat_len_le {ls : List (List UInt8)} {M : Nat} (h : ∀ r ∈ ls, r.length ≤ M) : ls.flatten.length ≤ ls.length * M := by
 induction ls with
 | nil => simp
 | cons x r ih =>
  have h1 := h x (List.mem_cons_self ..)
  have h2 := ih (fun y hy => h y (List.mem_cons_of_mem _ hy))
  simp only [List.flatten_cons, List.length_append, List.length_cons]
  rw [Nat.succ_mul]
  omega
theorem rows_of {w : World} {base : Nat} {v : Value} {xs : List Value} {ls : List (List UInt8)} (h : GotRows w base v xs ls) (hl : ∀ r ∈ ls, r.length ≤ 4611686018427387904) : ∃ ps : List Row, ps.map Row.val = xs ∧ ps.map Row.l = ls ∧ RRd w w.heap.size ps := by
 have hlen := h.len
 have hex : ∀ i, i < xs.length → ∃ p : Row, (∀ h1 : i < xs.length, p.val = xs[i]) ∧ (∀ h2 : i < ls.length, p.l = ls[i]) ∧ Rd w w.heap.size p.a (cells p.l) ∧ p.l.length ≤ 4611686018427387904 := fun i hi => by
  have hi2 : i < ls.length := by omega
  obtain ⟨a, c, h1, _, _, h2⟩ := (h.got i hi hi2).shape
  exact ⟨⟨a, ls[i], c⟩, fun _ => h1.symm, fun _ => rfl, h2, hl _ (List.getElem_mem hi2)⟩
 let ps : List Row := (List.range xs.length).map fun i => if h : i < xs.length then (hex i h).choose else ⟨none, [], 0⟩
 have hps : ps.length = xs.length := by simp [ps]
 have hget : ∀ i (hi : i < ps.length), ∃ hx : i < xs.length, ps[i] = (hex i hx).choose := fun i hi => by
  have hx : i < xs.length := by omega
  refine ⟨hx, ?_⟩
  simp [ps, hx]
 refine ⟨ps, List.ext_getElem (by simp [hps]) fun i h1 h2 => ?_, List.ext_getElem (by simp [hps, hlen]) fun i h1 h2 => ?_, fun p hp => ?_⟩
 ·obtain ⟨hx, e⟩ := hget i (by simpa using h1)
  rw [List.getElem_map, e]
  exact (hex i hx).choose_spec.1 h2
 ·obtain ⟨hx, e⟩ := hget i (by simpa using h1)
  rw [List.getElem_map, e]
  exact (hex i hx).choose_spec.2.1 h2
 ·obtain ⟨i, hi, rfl⟩ := List.getElem_of_mem hp
  obtain ⟨hx, e⟩ := hget i hi
  rw [e]
  exact (hex i hx).choose_spec.2.2
set_option maxRecDepth 100000 in
theorem results_open {fn : Func} (h : fn.results = #[.cell 4 29, .tmp 5]) (tmps : Array Value) (W : World) (g : Nat) (a b c d : Value) (hp : tmps[4]?.getD undef = .pointer (some ⟨g, 0, none⟩)) (hB : Blk W g 29 #[a, b, c, d]) :
  (results fn tmps).run Tryz.prog W = .ok (.tuple #[.agg #[a, b, c, d], tmps.getD 5 undef]) W := by
 obtain ⟨e0, e1, e2, e3, f0, f1, f2, f3⟩ := blk4_cells hB
 simp [results, h, go_sem, hp, e0, e1, e2, e3]
theorem closeS_lenO (q : List UInt8) : (closeS q).length ≤ 1048616 := by
 unfold closeS
 split
 ·simp
 ·rename_i h
  have := enc_len q.length (by omega)
  unfold piece head
  simp [Crc.four]
  omega
theorem fileL_row2 {l r : List UInt8} (h : r ∈ fileL l) : r.length ≤ 1048616 := by
 unfold fileL at h
 rcases List.mem_append.1 h with h | h
 ·obtain ⟨q, _, rfl⟩ := List.mem_map.1 h
  exact closeS_lenO q
 ·rw [List.mem_singleton.1 h]
  exact closeS_lenO _
theorem mem_flat_le {ls : List (List UInt8)} {r : List UInt8} (h : r ∈ ls) : r.length ≤ ls.flatten.length := by
 induction ls with
 | nil => cases h
 | cons x s ih =>
  simp only [List.flatten_cons, List.length_append]
  rcases List.mem_cons.1 h with rfl | h
  ·omega
  ·have := ih h; omega
theorem snapR_zero (w : World) (base : Nat) : SnapR w base (.agg #[.int .i64 0, .int .i64 0, .slice none 0 0, .slice none 0 0]) 0 0 [] [] :=
 ⟨.slice none 0 0, .slice none 0 0, rfl, Own.nil _ _ _, Own.nil _ _ _, fun k h => by simp [Value.ownBlock] at h⟩
set_option maxHeartbeats 8000000 in
set_option maxRecDepth 100000 in
theorem kopen_any (A : Option Addr) (b : List UInt8) (c : Nat) (ix : Int) (w : World) (hr : Rd w w.heap.size A (cells b)) (hlc : b.length ≤ c) (hc : c ≤ 9223372036854775807) (hl : b.length ≤ 40000000) :
  Calls Tryz.prog 83 #[.slice A b.length c, .int .i64 ix] w fun e w' => ∃ V i t z l, e = .returned (.tuple #[V, .bool (openB b ix)]) ∧ SnapR w' w.heap.size V i t z l ∧ (openB b ix = true → i = oI (allS b) ∧ t = oT (allS b) ∧ z = oZ (allS b) ∧ l = oD (allS b)) ∧ Below w.heap.size w w' := by
 obtain ⟨w0, hw0⟩ : ∃ w0, w0 = w.alloc (.cells #[.int .i64 0, .int .i64 0, .slice none 0 0, .slice none 0 0] 29) := ⟨_, rfl⟩
 have hb0 : Below w.heap.size w w0 := by rw [hw0]; exact (Below.refl _ w).alloc (Nat.le_refl _) _
 have hK0 : Blk w0 w.heap.size 29 #[.int .i64 0, .int .i64 0, .slice none 0 0, .slice none 0 0] := by rw [hw0]; exact Blk.new w 29 _
 have hs0 : w.heap.size < w0.heap.size := hK0.lt
 have hr0 : Rd w0 w0.heap.size A (cells b) := (hr.below hb0).more (by omega)
 have HRO := Lib.hid (rows_any A b b.length c rfl w0 hr0 hlc ⟨by omega, hc⟩)
 have HW0 := Lib.hid hw0
 have HB0 := Lib.hid hb0
 have HK0 := Lib.hid hK0
 have HR0 := Lib.hid hr0
 have hal := allS_len b
 have hrn := rowsS_len b
 have hrows : ∀ r ∈ (rowsS b).1, r.length ≤ 40000000 := fun r hr => by
  have h2 := rowsF_sum b (b.length + 1) 0 (by omega)
  have h3 : r.length ≤ (rowsS b).1.flatten.length := mem_flat_le hr
  unfold rowsS at h3
  omega
 have HRW := Lib.hid hrows
 obtain ⟨re, hre⟩ : ∃ re, re = (rowsS b).2.2 := ⟨_, rfl⟩
 obtain ⟨ru, hru⟩ : ∃ ru, ru = (rowsS b).2.1 := ⟨_, rfl⟩
 obtain ⟨rs, hrs⟩ : ∃ rs, rs = (rowsS b).1 := ⟨_, rfl⟩
 obtain ⟨al, hal2⟩ : ∃ al, al = allS b := ⟨_, rfl⟩
 have halr : al = (rs.take (rs.length - 1)).flatten := by rw [hal2, hrs]; rfl
 rw [← hre, ← hru, ← hrs] at HRO
 rw [← hrs] at HRW hrn
 rw [← hal2] at hal
 have hO : openB b ix = (decide (re = 0) && decide (2 ≤ rs.length) && decide ((fileL al).flatten = b) && (decide (oE al = 0) && decide (oI al = ix))) := by unfold openB; rw [hre, hrs, hal2]
 obtain ⟨ob, hob⟩ : ∃ ob, ob = openB b ix := ⟨_, rfl⟩
 rw [← hob, ← hal2]
 have HOB := Lib.hid (hob.trans hO)
 have HAL := Lib.hid halr
 clear hr hw0 hb0 hK0 hr0 hrows hre hru hrs hal2 halr hO hob
 go_enter Tryz.func83, Tryz.ntmps83
 go_upto_region 1 with (fail)
 rw [← HW0.out]
 go_wp2_with fail
 refine HRO.out.mono ?_
 rintro e w1 ⟨v1, xs, rfl, hg1, hb1⟩
 obtain ⟨A1, c1, rfl, hc1a, hc1b, hr1⟩ := hg1.own.shape
 have hx1 : xs.length = rs.length := hg1.len
 obtain ⟨ps, hp1, hp2, hp3⟩ := rows_of hg1 (fun r hr => by have := HRW.out r hr; omega)
 have hpl : ps.length = xs.length := by rw [← hp1, List.length_map]
 have HB1 := Lib.hid (HB0.out.trans (hb1.mono (by omega)))
 have hs1 := hb1.size
 have hK1 : Blk w1 w.heap.size 29 _ := HK0.out.below hb1 hs0
 have HK1 := Lib.hid hK1
 have HR1 := Lib.hid hr1
 have HP := Lib.hid (And.intro hp1 (And.intro hp2 hp3))
 have HRB1 := Lib.hid ((HR0.out.below hb1).more hs1)
 have HX1 := Lib.hid hx1
 have HPL := Lib.hid hpl
 obtain ⟨d0, d1, d2, d3, f0, f1, f2, f3⟩ := blk4_cells hK1
 have hxl : xs.length ≤ 40000000 := by omega
 clear hg1 hb1 hr1 hp1 hp2 hp3 hK1 HRO hx1 hpl
 by_cases hbad : re ≠ 0 ∨ (xs.length : Int) - 1 < 1
 ·have hfalse : (decide (re = 0) && decide (2 ≤ rs.length) && decide ((fileL al).flatten = b) && (decide (oE al = 0) && decide (oI al = ix))) = false := by
   rcases hbad with h | h
   ·rw [decide_eq_false h]; rfl
   ·rw [decide_eq_false (show ¬ 2 ≤ rs.length by have := HX1.out; omega), Bool.and_false]; rfl
  have hobf : ob = false := HOB.out.trans hfalse
  subst hobf
  have KF := (((Blk.set_ HK1.out 0 (.int .i64 0)).set_ 1 (.int .i64 0)).set_ 2 (.slice none 0 0)).set_ 3 (.slice none 0 0)
  have hbF := Lib.hid ((((HB1.out.setCell (p := ⟨w.heap.size, 0, none⟩) (Nat.le_refl _) (.int .i64 0)).setCell (p := ⟨w.heap.size, 1, none⟩) (Nat.le_refl _) (.int .i64 0)).setCell (p := ⟨w.heap.size, 2, none⟩) (Nat.le_refl _) (.slice none 0 0)).setCell (p := ⟨w.heap.size, 3, none⟩) (Nat.le_refl _) (.slice none 0 0))
  replace KF := Lib.hid KF
  clear hfalse
  by_cases h1 : re = 0
  ·have h2 : (xs.length : Int) - 1 < 1 := by
    rcases hbad with h | h
    ·exact absurd h1 h
    ·exact h
   subst h1
   clear hbad
   go_wp2_with fail
   refine bodyPost_ret (results_open (fn := Tryz.f83) rfl _ _ w.heap.size _ _ _ _ rfl KF.out) rfl ?_
   exact ⟨_, 0, 0, [], [], rfl, snapR_zero _ _, (fun h => by cases h), hbF.out⟩
  ·clear hbad
   go_wp2_with fail
   refine bodyPost_ret (results_open (fn := Tryz.f83) rfl _ _ w.heap.size _ _ _ _ rfl KF.out) rfl ?_
   exact ⟨_, 0, 0, [], [], rfl, snapR_zero _ _, (fun h => by cases h), hbF.out⟩
 ·obtain rfl : re = 0 := by
   by_cases h : re = 0
   ·exact h
   ·exact absurd (.inl h) hbad
  have h2 : ¬ (xs.length : Int) - 1 < 1 := fun h => hbad (.inr h)
  obtain ⟨m, hm⟩ : ∃ m : Nat, m = xs.length - 1 := ⟨_, rfl⟩
  have hmI : (xs.length : Int) - 1 = (m : Int) := by omega
  obtain ⟨qs, hqs⟩ : ∃ qs, qs = ps.take m := ⟨_, rfl⟩
  have hql : qs.length = m := by rw [hqs, List.length_take, HPL.out]; omega
  have hqv : qs.map Row.val = xs.take m := by rw [hqs, ← HP.out.1, List.map_take]
  have hqf : flat qs = al := by
   rw [HAL.out, ← HX1.out, ← hm, ← HP.out.2.1, ← List.map_take, ← hqs]
   unfold flat
   rw [List.flatMap_def]
  have HJ := Lib.hid (join_any A1 qs m c1 hql.symm w1 (by rw [hqv]; exact HR1.out.take m) (fun r hr => HP.out.2.2 r (by rw [hqs] at hr; exact List.mem_of_mem_take hr)) (by omega) (by rw [hqf]; omega) (by omega))
  rw [hqf] at HJ
  have hcut := fun W : World => run_cut (P := Tryz.prog) Tryz.underlying54 info_bytes A1 xs.length c1 0 m (by omega) (by omega) 0 (m : Int) rfl rfl W
  have hmx : m ≤ 40000000 := by omega
  have HMM := Lib.hid hm
  clear hqs hql hqv hqf hbad hm
  go_wp2_with fail
  refine HJ.out.mono ?_
  rintro e w2 ⟨v2, rfl, hg2, hb2⟩
  obtain ⟨A2, c2, rfl, hc2a, hc2b, hr2⟩ := hg2.shape
  have hs2 := hb2.size
  have HF := Lib.hid (file_any A2 al c2 w2 hr2 hc2a (by omega))
  have HB2 := Lib.hid (HB1.out.trans (hb2.mono (by omega)))
  have HK2 := Lib.hid (HK1.out.below hb2 (by omega))
  have HRB2 := Lib.hid ((HRB1.out.below hb2).more hs2)
  have HR2 := Lib.hid hr2
  clear hg2 hb2 hr2 HJ hcut HR1 HP d0 d1 d2 d3 f0 f1 f2 f3 HK1 HB1 HRB1
  go_wp2_with fail
  refine HF.out.mono ?_
  rintro e w3 ⟨v3, ys, rfl, hg3, hb3⟩
  obtain ⟨A3, c3, rfl, hc3a, hc3b, hr3⟩ := hg3.own.shape
  obtain ⟨ps3, k1, k2, k3⟩ := rows_of hg3 (fun r hr => by have := fileL_row2 hr; omega)
  have hs3 := hb3.size
  have hl3 : ps3.length = ys.length := by rw [← k1, List.length_map]
  have hyl : ys.length ≤ 100001 := by rw [hg3.len]; unfold fileL; rw [List.length_append, List.length_map, chunksL_length, List.length_singleton]; omega
  have hf3 : flat ps3 = (fileL al).flatten := by rw [← k2]; unfold flat; rw [List.flatMap_def]
  have hfl3 : (fileL al).flatten.length ≤ 104863648616 := by
   have h1 := flat_len_le (M := 1048616) (fun r hr => fileL_row2 (l := al) hr)
   have h2 : (fileL al).length ≤ 100001 := by rw [← hg3.len]; exact hyl
   have h3 := Nat.mul_le_mul_right 1048616 h2
   omega
  obtain ⟨FL, hFL⟩ : ∃ FL, FL = (fileL al).flatten := ⟨_, rfl⟩
  rw [← hFL] at hf3 hfl3
  have HFL := Lib.hid hFL
  clear hFL
  have HJ3 := Lib.hid (join_any A3 ps3 ys.length c3 hl3.symm w3 (by rw [k1]; exact hr3) k3 (by omega) (by rw [hf3]; omega) (by omega))
  rw [hf3] at HJ3
  have HB3 := Lib.hid (HB2.out.trans (hb3.mono (by omega)))
  have HK3 := Lib.hid (HK2.out.below hb3 (by omega))
  have HRB3 := Lib.hid ((HRB2.out.below hb3).more hs3)
  have HR3 := Lib.hid ((HR2.out.below hb3).more hs3)
  clear hg3 hb3 hr3 k1 k2 k3 hl3 hf3 HF
  go_wp2_with fail
  refine HJ3.out.mono ?_
  rintro e w4 ⟨v4, rfl, hg4, hb4⟩
  obtain ⟨A4, c4, rfl, hc4a, hc4b, hr4⟩ := hg4.shape
  have hs4 := hb4.size
  have hrb4 := (HRB3.out.below hb4).more hs4
  have HEQ := Lib.hid (equal_any A4 A FL b _ _ c4 c w4.heap.size rfl rfl w4 hr4 hrb4)
  have HB4 := Lib.hid (HB3.out.trans (hb4.mono (by omega)))
  have HK4 := Lib.hid (HK3.out.below hb4 (by omega))
  have HR4 := Lib.hid ((HR3.out.below hb4).more hs4)
  clear hg4 hb4 hr4 hrb4 HJ3
  go_wp2_with fail
  refine HEQ.out.mono ?_
  rintro e w' ⟨rfl, rfl⟩
  obtain ⟨d0, d1, d2, d3, f0, f1, f2, f3⟩ := blk4_cells HK4.out
  by_cases heq : FL = b
  ·rw [decide_eq_true heq]
   have HRD := Lib.hid (read_any A2 al al.length c2 rfl w4 HR4.out hc2a (by omega) hc2b)
   have HQ := Lib.hid heq
   clear heq HEQ
   go_wp2_with fail
   refine HRD.out.mono ?_
   rintro e w5 ⟨V, rfl, hS, hb5⟩
   obtain ⟨xx, yy, rfl, hz5, hd5, hap5⟩ := hS
   obtain ⟨Ax, cx, ex, _⟩ := Own.shape hz5
   obtain ⟨Ay, cy, ey, _⟩ := bs_shape hd5
   rw [List.length_map] at ex
   subst ex ey
   have hs5 := hb5.size
   obtain ⟨w6, hw6⟩ : ∃ w6, w6 = w5.alloc (.cells #[.int .i64 (oI al), .int .i64 (oT al), .slice Ax (oZ al).length cx, .slice Ay (oD al).length cy] 29) := ⟨_, rfl⟩
   have hb6 : Below w5.heap.size w5 w6 := by rw [hw6]; exact (Below.refl _ w5).alloc (Nat.le_refl _) _
   have hK6 : Blk w6 w5.heap.size 29 #[.int .i64 (oI al), .int .i64 (oT al), .slice Ax (oZ al).length cx, .slice Ay (oD al).length cy] := by rw [hw6]; exact Blk.new w5 29 _
   have hs6 := hb6.size
   have hKr : Blk w6 w.heap.size 29 _ := (HK4.out.below hb5 (by omega)).below hb6 (by omega)
   have HB6 := Lib.hid ((HB4.out.trans (hb5.mono (by omega))).trans (hb6.mono (by omega)))
   have HZ6 := Lib.hid (Own.below hz5 hb6 (Nat.le_refl _))
   have HD6 := Lib.hid (Own.below hd5 hb6 (Nat.le_refl _))
   have HAP := Lib.hid hap5
   have HK6 := Lib.hid hK6
   have HKR := Lib.hid hKr
   have HW6 := Lib.hid hw6
   obtain ⟨g0, g1, g2, g3, _⟩ := blk4_cells hK6
   obtain ⟨r0, r1, r2, r3, q0, q1, q2, q3⟩ := blk4_cells hKr
   have hne : w.heap.size ≠ w5.heap.size := by omega
   clear hz5 hd5 hap5 hb5 hb6 hK6 hKr hw6 HRD d0 d1 d2 d3 f0 f1 f2 f3
   go_upto_region 9 with (fail)
   rw [← HW6.out]
   by_cases hoe : oE al = 0
   ·rw [hoe]
    refine wp_region_held_drew (by kernel_rfl) (S := fun W => W.cell? ⟨w5.heap.size, 0, none⟩ = some (.int .i64 (oI al)) ∧ W.cell? ⟨w5.heap.size, 1, none⟩ = some (.int .i64 (oT al)) ∧ W.cell? ⟨w5.heap.size, 2, none⟩ = some (.slice Ax (oZ al).length cx) ∧ W.cell? ⟨w5.heap.size, 3, none⟩ = some (.slice Ay (oD al).length cy)) ⟨g0, g1, g2, g3⟩ (fun hHeld => ?_)
    refine held_take 0 (v := ?_) (by simp) (by kernel_rfl) (by kernel_rfl) (by kernel_rfl) (fun _ _ _ h => h) (Or.inl ⟨by rfl, ?_⟩) hHeld ?_
    case refine_2 => (intro w hSw; (try dsimp only at hSw); (try (obtain ⟨s0, s1, s2, s3⟩ := hSw)); simp only [List.getElem_cons_zero]; go_simp <;> with_reducible rfl)
    simp only [List.getElem_cons_zero, Act.put, List.setIfInBounds_toArray, List.set_cons_zero, List.set_cons_succ]
    refine held_take 1 (v := ?_) (by simp) (by kernel_rfl) (by kernel_rfl) (by kernel_rfl) (fun _ _ _ h => h) (Or.inl ⟨by rfl, ?_⟩) hHeld ?_
    case refine_2 => (intro w hSw; (try dsimp only at hSw); (try (obtain ⟨s0, s1, s2, s3⟩ := hSw)); simp only [List.getElem_cons_zero, List.getElem_cons_succ]; go_simp <;> with_reducible rfl)
    simp only [List.getElem_cons_zero, List.getElem_cons_succ, Act.put, List.setIfInBounds_toArray, List.set_cons_zero, List.set_cons_succ]
    refine held_take 2 (v := ?_) (by simp) (by kernel_rfl) (by kernel_rfl) (by kernel_rfl) (fun _ _ _ h => h) (Or.inl ⟨by rfl, ?_⟩) hHeld ?_
    case refine_2 => (intro w hSw; (try dsimp only at hSw); (try (obtain ⟨s0, s1, s2, s3⟩ := hSw)); simp only [List.getElem_cons_zero, List.getElem_cons_succ]; go_simp <;> with_reducible rfl)
    simp only [List.getElem_cons_zero, List.getElem_cons_succ, Act.put, List.setIfInBounds_toArray, List.set_cons_zero, List.set_cons_succ]
    refine held_take 3 (v := ?_) (by simp) (by kernel_rfl) (by kernel_rfl) (by kernel_rfl) (fun _ _ _ h => h) (Or.inl ⟨by rfl, ?_⟩) hHeld ?_
    case refine_2 => (intro w hSw; (try dsimp only at hSw); (try (obtain ⟨s0, s1, s2, s3⟩ := hSw)); simp only [List.getElem_cons_zero, List.getElem_cons_succ]; go_simp <;> with_reducible rfl)
    simp only [List.getElem_cons_zero, List.getElem_cons_succ, Act.put, List.setIfInBounds_toArray, List.set_cons_zero, List.set_cons_succ]
    refine held_take 4 (v := ?_) (by simp) (by kernel_rfl) (by kernel_rfl) (by kernel_rfl) (fun _ _ _ h => h) (Or.inl ⟨by rfl, ?_⟩) hHeld ?_
    case refine_2 => (intro w hSw; (try dsimp only at hSw); (try (obtain ⟨s0, s1, s2, s3⟩ := hSw)); simp only [List.getElem_cons_zero, List.getElem_cons_succ]; go_simp <;> with_reducible rfl)
    simp only [List.getElem_cons_zero, List.getElem_cons_succ, Act.put, List.setIfInBounds_toArray, List.set_cons_zero, List.set_cons_succ]
    refine held_take 5 (v := ?_) (by simp) (by kernel_rfl) (by kernel_rfl) (by kernel_rfl) (fun _ _ _ h => h) (Or.inl ⟨by rfl, ?_⟩) hHeld ?_
    case refine_2 => (intro w hSw; (try dsimp only at hSw); (try (obtain ⟨s0, s1, s2, s3⟩ := hSw)); simp only [List.getElem_cons_zero, List.getElem_cons_succ]; go_simp <;> with_reducible rfl)
    simp only [List.getElem_cons_zero, List.getElem_cons_succ, Act.put, List.setIfInBounds_toArray, List.set_cons_zero, List.set_cons_succ]
    refine held_take 6 (v := ?_) (by simp) (by kernel_rfl) (by kernel_rfl) (by kernel_rfl) (fun _ _ _ h => h) (Or.inl ⟨by rfl, ?_⟩) hHeld ?_
    case refine_2 => (intro w hSw; (try dsimp only at hSw); (try (obtain ⟨s0, s1, s2, s3⟩ := hSw)); simp only [List.getElem_cons_zero, List.getElem_cons_succ]; go_simp <;> with_reducible rfl)
    simp only [List.getElem_cons_zero, List.getElem_cons_succ, Act.put, List.setIfInBounds_toArray, List.set_cons_zero, List.set_cons_succ]
    refine held_take 7 (v := ?_) (by simp) (by kernel_rfl) (by kernel_rfl) (by kernel_rfl) (fun _ _ _ h => h) (Or.inl ⟨by rfl, ?_⟩) hHeld ?_
    case refine_2 => (intro w hSw; (try dsimp only at hSw); (try (obtain ⟨s0, s1, s2, s3⟩ := hSw)); simp only [List.getElem_cons_zero, List.getElem_cons_succ]; go_simp <;> with_reducible rfl)
    simp only [List.getElem_cons_zero, List.getElem_cons_succ, Act.put, List.setIfInBounds_toArray, List.set_cons_zero, List.set_cons_succ]
    refine held_take 8 (v := ?_) (by simp) (by kernel_rfl) (by kernel_rfl) (by kernel_rfl) (fun _ _ _ h => h) (Or.inl ⟨by rfl, ?_⟩) hHeld ?_
    case refine_2 => (intro w hSw; (try dsimp only at hSw); (try (obtain ⟨s0, s1, s2, s3⟩ := hSw)); simp only [List.getElem_cons_zero, List.getElem_cons_succ]; go_simp <;> with_reducible rfl)
    simp only [List.getElem_cons_zero, List.getElem_cons_succ, Act.put, List.setIfInBounds_toArray, List.set_cons_zero, List.set_cons_succ]
    refine held_sole 9 (by simp) (by kernel_rfl) (fun K hK => ?_)
    simp only [List.getElem_cons_zero, List.getElem_cons_succ]
    go_simp
    obtain ⟨W9, hW9⟩ : ∃ W9, W9 = ((((w6.setCell ⟨w.heap.size, 0, none⟩ (.int .i64 (oI al))).setCell ⟨w.heap.size, 1, none⟩ (.int .i64 (oT al))).setCell ⟨w.heap.size, 2, none⟩ (.slice Ax (oZ al).length cx)).setCell ⟨w.heap.size, 3, none⟩ (.slice Ay (oD al).length cy)).drew := ⟨_, rfl⟩
    have hK9 : Blk W9 w.heap.size 29 #[.int .i64 (oI al), .int .i64 (oT al), .slice Ax (oZ al).length cx, .slice Ay (oD al).length cy] := by rw [hW9]; exact (((Blk.set_ HKR.out 0 _).set_ 1 _).set_ 2 _).set_ 3 _
    have hg9 : w6.grownBy W9 (some w.heap.size) := by rw [hW9]; exact grown_drewN (grown_then (grown_then (grown_then (grown_setCell w6 w.heap.size 0 _) (grown_setCell _ w.heap.size 1 _) (.inl rfl)) (grown_setCell _ w.heap.size 2 _) (.inl rfl)) (grown_setCell _ w.heap.size 3 _) (.inl rfl)) 1
    have hK5 : Blk W9 w5.heap.size 29 _ := HK6.out.grown hg9 (by intro e; injection e with e; exact hne e.symm)
    obtain ⟨b0, b1, b2, b3, _⟩ := blk4_cells hK5
    have HZ9 := Lib.hid (show Is W9 w4.heap.size (.slice Ax (oZ al).length cx) (oZ al) from Own.kept HZ6.out hg9 (.inr (fun e => by have := (Own.lt HZ6.out w.heap.size e).1; omega)))
    have HD9 := Lib.hid (show Bs W9 w4.heap.size (.slice Ay (oD al).length cy) (oD al) from Own.kept HD6.out hg9 (.inr (fun e => by have := (Own.lt HD6.out w.heap.size e).1; omega)))
    have HB9 := Lib.hid (HB6.out.grown hg9 (by omega) (fun k hk => by injection hk with hk; omega))
    have HK9 := Lib.hid hK9
    rw [← hW9]
    clear hW9 hK9 hg9 hK5
    refine hK.out _ _ ⟨b0, b1, b2, b3⟩ (fun hHeld => ?_)
    clear hK K
    try simp only [Act.put, List.setIfInBounds_toArray, List.set_cons_zero, List.set_cons_succ]
    refine held_sole 10 (by simp) (by kernel_rfl) (fun K hK => ?_)
    simp only [List.getElem_cons_zero, List.getElem_cons_succ]
    go_simp
    refine hK.out _ _ ⟨b0, b1, b2, b3⟩ (fun hHeld => ?_)
    clear hK K
    try simp only [Act.put, List.setIfInBounds_toArray, List.set_cons_zero, List.set_cons_succ]
    refine wpAnyH_done (by kernel_rfl) ?_ _
    have hob2 : ob = (oI al == ix) := by
     rw [HOB.out, decide_eq_true (show 2 ≤ rs.length by have := HX1.out; omega), ← HFL.out, decide_eq_true HQ.out, decide_eq_true hoe]
     simp [Bool.beq_eq_decide_eq]
    have HO2 := Lib.hid hob2
    clear hob2 hHeld b0 b1 b2 b3
    go_wp2_with fail
    refine bodyPost_ret (results_open (fn := Tryz.f83) rfl _ _ w.heap.size _ _ _ _ rfl HK9.out) rfl ?_
    refine ⟨_, oI al, oT al, oZ al, oD al, by rw [HO2.out]; rfl, ⟨_, _, rfl, HZ9.out.mono (by omega), HD9.out.mono (by omega), HAP.out⟩, fun _ => ⟨rfl, rfl, rfl, rfl⟩, HB9.out⟩
   ·have h4 : oE al = 4 := by
     unfold oE at hoe ⊢
     split
     ·rename_i h; rw [if_pos h] at hoe; exact absurd rfl hoe
     ·rfl
    have HNE := Lib.hid hoe
    clear hoe
    rw [h4]
    clear h4
    refine wp_region_held_drew (by kernel_rfl) (S := fun W => W.cell? ⟨w5.heap.size, 0, none⟩ = some (.int .i64 (oI al)) ∧ W.cell? ⟨w5.heap.size, 1, none⟩ = some (.int .i64 (oT al)) ∧ W.cell? ⟨w5.heap.size, 2, none⟩ = some (.slice Ax (oZ al).length cx) ∧ W.cell? ⟨w5.heap.size, 3, none⟩ = some (.slice Ay (oD al).length cy)) ⟨g0, g1, g2, g3⟩ (fun hHeld => ?_)
    refine held_take 0 (v := ?_) (by simp) (by kernel_rfl) (by kernel_rfl) (by kernel_rfl) (fun _ _ _ h => h) (Or.inl ⟨by rfl, ?_⟩) hHeld ?_
    case refine_2 => (intro w hSw; (try dsimp only at hSw); (try (obtain ⟨s0, s1, s2, s3⟩ := hSw)); simp only [List.getElem_cons_zero]; go_simp <;> with_reducible rfl)
    simp only [List.getElem_cons_zero, Act.put, List.setIfInBounds_toArray, List.set_cons_zero, List.set_cons_succ]
    refine held_take 1 (v := ?_) (by simp) (by kernel_rfl) (by kernel_rfl) (by kernel_rfl) (fun _ _ _ h => h) (Or.inl ⟨by rfl, ?_⟩) hHeld ?_
    case refine_2 => (intro w hSw; (try dsimp only at hSw); (try (obtain ⟨s0, s1, s2, s3⟩ := hSw)); simp only [List.getElem_cons_zero, List.getElem_cons_succ]; go_simp <;> with_reducible rfl)
    simp only [List.getElem_cons_zero, List.getElem_cons_succ, Act.put, List.setIfInBounds_toArray, List.set_cons_zero, List.set_cons_succ]
    refine held_take 2 (v := ?_) (by simp) (by kernel_rfl) (by kernel_rfl) (by kernel_rfl) (fun _ _ _ h => h) (Or.inl ⟨by rfl, ?_⟩) hHeld ?_
    case refine_2 => (intro w hSw; (try dsimp only at hSw); (try (obtain ⟨s0, s1, s2, s3⟩ := hSw)); simp only [List.getElem_cons_zero, List.getElem_cons_succ]; go_simp <;> with_reducible rfl)
    simp only [List.getElem_cons_zero, List.getElem_cons_succ, Act.put, List.setIfInBounds_toArray, List.set_cons_zero, List.set_cons_succ]
    refine held_take 3 (v := ?_) (by simp) (by kernel_rfl) (by kernel_rfl) (by kernel_rfl) (fun _ _ _ h => h) (Or.inl ⟨by rfl, ?_⟩) hHeld ?_
    case refine_2 => (intro w hSw; (try dsimp only at hSw); (try (obtain ⟨s0, s1, s2, s3⟩ := hSw)); simp only [List.getElem_cons_zero, List.getElem_cons_succ]; go_simp <;> with_reducible rfl)
    simp only [List.getElem_cons_zero, List.getElem_cons_succ, Act.put, List.setIfInBounds_toArray, List.set_cons_zero, List.set_cons_succ]
    refine held_take 4 (v := undef) (by simp) (by kernel_rfl) (by kernel_rfl) (by kernel_rfl) (fun _ _ _ h => h) (Or.inr ⟨by rfl, rfl⟩) hHeld ?_
    simp only [List.getElem_cons_zero, List.getElem_cons_succ, Act.put, List.setIfInBounds_toArray, List.set_cons_zero, List.set_cons_succ]
    refine held_take 5 (v := undef) (by simp) (by kernel_rfl) (by kernel_rfl) (by kernel_rfl) (fun _ _ _ h => h) (Or.inr ⟨by rfl, rfl⟩) hHeld ?_
    simp only [List.getElem_cons_zero, List.getElem_cons_succ, Act.put, List.setIfInBounds_toArray, List.set_cons_zero, List.set_cons_succ]
    refine held_take 6 (v := undef) (by simp) (by kernel_rfl) (by kernel_rfl) (by kernel_rfl) (fun _ _ _ h => h) (Or.inr ⟨by rfl, rfl⟩) hHeld ?_
    simp only [List.getElem_cons_zero, List.getElem_cons_succ, Act.put, List.setIfInBounds_toArray, List.set_cons_zero, List.set_cons_succ]
    refine held_take 7 (v := undef) (by simp) (by kernel_rfl) (by kernel_rfl) (by kernel_rfl) (fun _ _ _ h => h) (Or.inr ⟨by rfl, rfl⟩) hHeld ?_
    simp only [List.getElem_cons_zero, List.getElem_cons_succ, Act.put, List.setIfInBounds_toArray, List.set_cons_zero, List.set_cons_succ]
    refine held_take 8 (v := ?_) (by simp) (by kernel_rfl) (by kernel_rfl) (by kernel_rfl) (fun _ _ _ h => h) (Or.inl ⟨by rfl, ?_⟩) hHeld ?_
    case refine_2 => (intro w hSw; (try dsimp only at hSw); (try (obtain ⟨s0, s1, s2, s3⟩ := hSw)); simp only [List.getElem_cons_zero, List.getElem_cons_succ]; go_simp <;> with_reducible rfl)
    simp only [List.getElem_cons_zero, List.getElem_cons_succ, Act.put, List.setIfInBounds_toArray, List.set_cons_zero, List.set_cons_succ]
    refine held_sole 9 (by simp) (by kernel_rfl) (fun K hK => ?_)
    simp only [List.getElem_cons_zero, List.getElem_cons_succ]
    go_simp
    obtain ⟨W9, hW9⟩ : ∃ W9, W9 = ((((w6.setCell ⟨w.heap.size, 0, none⟩ (.int .i64 (oI al))).setCell ⟨w.heap.size, 1, none⟩ (.int .i64 (oT al))).setCell ⟨w.heap.size, 2, none⟩ (.slice Ax (oZ al).length cx)).setCell ⟨w.heap.size, 3, none⟩ (.slice Ay (oD al).length cy)).drew := ⟨_, rfl⟩
    have hK9 : Blk W9 w.heap.size 29 #[.int .i64 (oI al), .int .i64 (oT al), .slice Ax (oZ al).length cx, .slice Ay (oD al).length cy] := by rw [hW9]; exact (((Blk.set_ HKR.out 0 _).set_ 1 _).set_ 2 _).set_ 3 _
    have hg9 : w6.grownBy W9 (some w.heap.size) := by rw [hW9]; exact grown_drewN (grown_then (grown_then (grown_then (grown_setCell w6 w.heap.size 0 _) (grown_setCell _ w.heap.size 1 _) (.inl rfl)) (grown_setCell _ w.heap.size 2 _) (.inl rfl)) (grown_setCell _ w.heap.size 3 _) (.inl rfl)) 1
    have hK5 : Blk W9 w5.heap.size 29 _ := HK6.out.grown hg9 (by intro e; injection e with e; exact hne e.symm)
    obtain ⟨b0, b1, b2, b3, _⟩ := blk4_cells hK5
    have HZ9 := Lib.hid (show Is W9 w4.heap.size (.slice Ax (oZ al).length cx) (oZ al) from Own.kept HZ6.out hg9 (.inr (fun e => by have := (Own.lt HZ6.out w.heap.size e).1; omega)))
    have HD9 := Lib.hid (show Bs W9 w4.heap.size (.slice Ay (oD al).length cy) (oD al) from Own.kept HD6.out hg9 (.inr (fun e => by have := (Own.lt HD6.out w.heap.size e).1; omega)))
    have HB9 := Lib.hid (HB6.out.grown hg9 (by omega) (fun k hk => by injection hk with hk; omega))
    have HK9 := Lib.hid hK9
    rw [← hW9]
    clear hW9 hK9 hg9 hK5
    refine hK.out _ _ ⟨b0, b1, b2, b3⟩ (fun hHeld => ?_)
    clear hK K
    try simp only [Act.put, List.setIfInBounds_toArray, List.set_cons_zero, List.set_cons_succ]
    refine held_sole 10 (by simp) (by kernel_rfl) (fun K hK => ?_)
    simp only [List.getElem_cons_zero, List.getElem_cons_succ]
    go_simp
    refine hK.out _ _ ⟨b0, b1, b2, b3⟩ (fun hHeld => ?_)
    clear hK K
    try simp only [Act.put, List.setIfInBounds_toArray, List.set_cons_zero, List.set_cons_succ]
    refine wpAnyH_done (by kernel_rfl) ?_ _
    have hob2 : ob = false := by
     rw [HOB.out, decide_eq_false HNE.out, Bool.false_and, Bool.and_false]
    have HO2 := Lib.hid hob2
    clear hob2 hHeld b0 b1 b2 b3
    go_wp2_with fail
    refine bodyPost_ret (results_open (fn := Tryz.f83) rfl _ _ w.heap.size _ _ _ _ rfl HK9.out) rfl ?_
    refine ⟨_, oI al, oT al, oZ al, oD al, by rw [HO2.out]; rfl, ⟨_, _, rfl, HZ9.out.mono (by omega), HD9.out.mono (by omega), HAP.out⟩, fun _ => ⟨rfl, rfl, rfl, rfl⟩, HB9.out⟩
  ·rw [decide_eq_false heq]
   have hobf : ob = false := by
    rw [HOB.out, ← HFL.out, decide_eq_false heq, Bool.and_false]; rfl
   subst hobf
   have KF := (((Blk.set_ HK4.out 0 (.int .i64 0)).set_ 1 (.int .i64 0)).set_ 2 (.slice none 0 0)).set_ 3 (.slice none 0 0)
   have hbF := Lib.hid ((((HB4.out.setCell (p := ⟨w.heap.size, 0, none⟩) (Nat.le_refl _) (.int .i64 0)).setCell (p := ⟨w.heap.size, 1, none⟩) (Nat.le_refl _) (.int .i64 0)).setCell (p := ⟨w.heap.size, 2, none⟩) (Nat.le_refl _) (.slice none 0 0)).setCell (p := ⟨w.heap.size, 3, none⟩) (Nat.le_refl _) (.slice none 0 0))
   replace KF := Lib.hid KF
   clear HEQ heq
   go_wp2_with fail
   refine bodyPost_ret (results_open (fn := Tryz.f83) rfl _ _ w.heap.size _ _ _ _ rfl KF.out) rfl ?_
   exact ⟨_, 0, 0, [], [], rfl, snapR_zero _ _, (fun h => by cases h), hbF.out⟩
end Go.Proofs.YteehkcpokgeipaaGreatDoor
