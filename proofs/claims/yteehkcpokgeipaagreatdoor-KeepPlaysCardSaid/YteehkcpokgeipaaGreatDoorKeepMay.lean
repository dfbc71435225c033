/- Layer 23: which snapshots may be (keep.within, keep.may, the reference's may). Condition: the snapshot's voters can be read. -/
import Derived.Test.YteehkcpokgeipaaGreatDoorSealL
import Derived.Test.YteehkcpokgeipaaGreatDoorHeld
import Derived.Test.YteehkcpokgeipaaGreatDoorTot
import Derived.Outline
set_option linter.unusedVariables false
namespace Go.Proofs.YteehkcpokgeipaaGreatDoor
open Go.RowKit Oct
def outB (n : Int) : Bool := decide (n < 0) || decide (1099511627776 < n)
def rising (last : Int) : List Int → Bool
 | [] => true
 | v :: r => decide (last < v) && rising v r
def mayB (i t : Int) (z : List Int) (l : List UInt8) : Bool := rising 0 z && (!outB i && !outB t) && decide (z.length ≤ 64) && decide (l.length ≤ 1048576)
theorem out_any (n : Int) (w : World) : Calls Tryz.prog 107 #[.int .i64 n] w fun e w' => e = .returned (.bool (outB n)) ∧ w = w' := by
 unfold outB
 by_cases h : n < 0
 ·have hd : decide (n < 0) = true := decide_eq_true h
  rw [hd]
  go_enter Tryz.func107, Tryz.ntmps107
  go_wp2
  go_ret
  exact ⟨rfl, rfl⟩
 ·have hd : decide (n < 0) = false := decide_eq_false h
  rw [hd]
  go_enter Tryz.func107, Tryz.ntmps107
  go_wp2
  go_ret
  exact ⟨rfl, rfl⟩
set_option maxRecDepth 100000 in
theorem index_any (A : Option Addr) (z : List Int) (n c B : Nat) (F : Value) (hF : F = .func (.func 107) #[] #[]) (hn : n = z.length) (w : World) (hr : Rd w B A (z.map (Value.int .i64))) (hl : z.length ≤ 4611686018427387904) :
  Calls Tryz.prog 133 #[.slice A n c, F] w fun e w' => (∃ r : Int, e = .returned (.int .i64 r) ∧ decide (0 ≤ r) = z.any outB) ∧ w = w' := by
 subst hn; subst hF
 go_enter Tryz.func133, Tryz.ntmps133
 go_wp2_with fail
 go_loop [8, 5] (fun i _ => ∃ k : Nat, k ≤ z.length ∧ i = .int .i64 k ∧ Hid (z.any outB = (z.drop k).any outB)) (fun i _ => z.length - (intOf i).toNat)
 case atStart => exact ⟨0, by omega, rfl, Lib.hid (by simp)⟩
 case round =>
  obtain ⟨k, hk, rfl, hst⟩ := hrel
  by_cases hlt : k < z.length
  ·obtain ⟨ad, rfl, hbk, hcell⟩ := rd_at hr hlt
   have hkI : (k : Int) < z.length := by omega
   have hdc : z.drop k = z[k] :: z.drop (k + 1) := List.drop_eq_getElem_cons hlt
   by_cases ho : outB z[k] = true
   ·have hfin : Hid (z.any outB = true) := Lib.hid (by have h := hst.out; rw [hdc, List.any_cons, ho] at h; rw [h]; rfl)
    have HO := Lib.hid ho
    generalize z[k] = x at hcell HO
    clear ho hdc hst
    go_wp2_with (go_at_call 107; refine (out_any x _).mono ?_; rintro e w1 ⟨rfl, rfl⟩; rw [HO.out])
    go_ret
    exact ⟨⟨k, rfl, by rw [hfin.out]; simp⟩, rfl⟩
   ·have ho' : outB z[k] = false := by simpa using ho
    have hst2 : Hid (z.any outB = (z.drop (k + 1)).any outB) := Lib.hid (by have h := hst.out; rw [hdc, List.any_cons, ho'] at h; rw [h]; exact Bool.false_or _)
    have HO := Lib.hid ho'
    generalize z[k] = x at hcell HO
    clear ho ho' hdc hst
    go_wp2_with (go_at_call 107; refine (out_any x _).mono ?_; rintro e w1 ⟨rfl, rfl⟩; rw [HO.out])
    exact ⟨⟨k + 1, by omega, by go_num, hst2⟩, by simp [intOf]; omega⟩
  ·obtain rfl : k = z.length := by omega
   have hfin : Hid (z.any outB = false) := Lib.hid (by rw [hst.out]; simp)
   clear hst
   go_wp2
   go_ret
   exact ⟨⟨-1, rfl, by rw [hfin.out]; decide⟩, rfl⟩
set_option maxRecDepth 100000 in
theorem contains_any (A : Option Addr) (z : List Int) (n c B : Nat) (F : Value) (hF : F = .func (.func 107) #[] #[]) (hn : n = z.length) (w : World) (hr : Rd w B A (z.map (Value.int .i64))) (hl : z.length ≤ 4611686018427387904) :
  Calls Tryz.prog 106 #[.slice A n c, F] w fun e w' => e = .returned (.bool (z.any outB)) ∧ w = w' := by
 subst hF; subst hn
 go_enter Tryz.func106, Tryz.ntmps106
 go_wp2_with fail
 refine (index_any A z _ c B _ rfl rfl w hr hl).mono ?_
 rintro e w1 ⟨⟨r, rfl, h⟩, rfl⟩
 have H := Lib.hid h
 clear h
 go_wp2
 go_ret
 exact ⟨by rw [← H.out]; rfl, rfl⟩
set_option maxRecDepth 100000 in
theorem within_any (A : Option Addr) (z : List Int) (n c B : Nat) (hn : n = z.length) (w : World) (hr : Rd w B A (z.map (Value.int .i64))) (hl : z.length ≤ 4611686018427387904) :
  Calls Tryz.prog 66 #[.slice A n c] w fun e w' => e = .returned (.bool (!z.any outB)) ∧ w = w' := by
 subst hn
 go_enter Tryz.func66, Tryz.ntmps66
 go_wp2_with fail
 refine (contains_any A z _ c B _ rfl rfl w hr hl).mono ?_
 rintro e w1 ⟨rfl, rfl⟩
 go_wp2
 go_ret
 exact ⟨rfl, rfl⟩
def snapV (i t : Int) (Av : Option Addr) (nv cv : Nat) (Ad : Option Addr) (nd cd : Nat) : Value := .agg #[.int .i64 i, .int .i64 t, .slice Av nv cv, .slice Ad nd cd]
set_option maxRecDepth 100000 in
theorem may_any (i t : Int) (Av Ad : Option Addr) (z : List Int) (l : List UInt8) (nv cv nd cd B : Nat) (hv : nv = z.length) (hd : nd = l.length) (w : World) (hB : B ≤ w.heap.size) (hr : Rd w B Av (z.map (Value.int .i64))) (hl : z.length ≤ 4611686018427387904) (hl2 : l.length ≤ 4611686018427387904) :
  Calls Tryz.prog 47 #[snapV i t Av nv cv Ad nd cd] w fun e w' => e = .returned (.bool (mayB i t z l)) ∧ Below w.heap.size w w' := by
 subst hv; subst hd
 unfold snapV
 go_enter Tryz.func47, Tryz.ntmps47
 go_wp2_with fail
 have hr1 := Lib.hid (hr.alloc hB (Obj.cells #[Value.int IntKind.i64 i, Value.int IntKind.i64 t, Value.slice Av z.length cv, Value.slice Ad l.length cd] 29))
 go_loop [9, 3, 5] (fun a b _ => ∃ (k : Nat) (last : Int), k ≤ z.length ∧ a = .int .i64 k ∧ b = .int .i64 last ∧ Hid (rising 0 z = rising last (z.drop k))) (fun a _ _ => z.length - (intOf a).toNat)
 case atStart => exact ⟨0, 0, by omega, rfl, rfl, Lib.hid (by simp)⟩
 case round =>
  obtain ⟨k, last, hk, rfl, rfl, hst⟩ := hrel
  by_cases hlt : k < z.length
  ·obtain ⟨ad, rfl, hbk, hcell⟩ := rd_at hr1.out hlt
   have hkI : (k : Int) < z.length := by omega
   have hdc : z.drop k = z[k] :: z.drop (k + 1) := List.drop_eq_getElem_cons hlt
   by_cases ho : z[k] ≤ last
   ·have hfin : Hid (mayB i t z l = false) := Lib.hid (by have h := hst.out; rw [hdc, rising, decide_eq_false (by omega)] at h; unfold mayB; rw [h]; simp)
    have ho' : decide (z[k] ≤ last) = true := decide_eq_true ho
    generalize z[k] = x at hcell ho ho'
    clear hdc hst
    go_wp2
    go_ret
    exact ⟨by rw [hfin.out]; rfl, (Below.refl _ w).alloc (Nat.le_refl _) _⟩
   ·have hst2 : Hid (rising 0 z = rising z[k] (z.drop (k + 1))) := Lib.hid (by have h := hst.out; rw [hdc, rising, decide_eq_true (by omega), Bool.true_and] at h; exact h)
    have ho' : decide (z[k] ≤ last) = false := decide_eq_false ho
    generalize z[k] = x at hcell hst2 ho ho'
    clear hdc hst
    go_wp2
    exact ⟨⟨k + 1, x, by omega, by go_num, rfl, hst2⟩, by simp [intOf]; omega⟩
  ·obtain rfl : k = z.length := by omega
   have hfin : Hid (rising 0 z = true) := Lib.hid (by have h := hst.out; rw [List.drop_length] at h; rw [h]; rfl)
   clear hst
   go_wp2_with fail
   have hA : Rd ((w.alloc (Obj.cells #[Value.int IntKind.i64 i, Value.int IntKind.i64 t, Value.slice Av z.length cv, Value.slice Ad l.length cd] 29)).alloc (.cells #[.int .i64 i, .int .i64 t] 3)) (w.heap.size + 2) (some ⟨w.heap.size + 1, 0, none⟩) ([i, t].map (Value.int .i64)) := by
    have h := rd_two (w.alloc (Obj.cells #[Value.int IntKind.i64 i, Value.int IntKind.i64 t, Value.slice Av z.length cv, Value.slice Ad l.length cd] 29)) 3 (.int .i64 i) (.int .i64 t)
    rw [show (w.alloc (Obj.cells #[Value.int IntKind.i64 i, Value.int IntKind.i64 t, Value.slice Av z.length cv, Value.slice Ad l.length cd] 29)).heap.size = w.heap.size + 1 by simp] at h
    exact h
   refine (within_any _ [i, t] 2 2 _ rfl _ hA (by simp)).mono ?_
   rintro e w1 ⟨rfl, rfl⟩
   have hq : Hid (mayB i t z l = ((!([i, t].any outB)) && decide (z.length ≤ 64) && decide (l.length ≤ 1048576))) := Lib.hid (by unfold mayB; rw [hfin.out]; simp)
   have hb := Lib.hid (((Below.refl w.heap.size w).alloc (Nat.le_refl _) (Obj.cells #[Value.int IntKind.i64 i, Value.int IntKind.i64 t, Value.slice Av z.length cv, Value.slice Ad l.length cd] 29)).alloc (by simp) (Obj.cells #[Value.int IntKind.i64 i, Value.int IntKind.i64 t] 3))
   clear hfin hr1
   by_cases h1 : [i, t].any outB = true
   ·rw [h1]
    have hf : Hid (mayB i t z l = false) := Lib.hid (by rw [hq.out, h1]; rfl)
    clear h1 hq
    go_wp2
    go_ret
    exact ⟨by rw [hf.out]; rfl, hb.out⟩
   ·have h1' : [i, t].any outB = false := by simpa using h1
    rw [h1']
    by_cases h2 : z.length ≤ 64
    ·have hf : Hid (mayB i t z l = decide (l.length ≤ 1048576)) := Lib.hid (by rw [hq.out, h1', decide_eq_true h2]; rfl)
     have h2a : decide ((z.length : Int) ≤ 64) = true := decide_eq_true (by omega)
     have h2b : decide (z.length ≤ 64) = true := decide_eq_true h2
     clear h1 h1' hq
     go_wp2
     go_ret
     exact ⟨by rw [hf.out]; simp; omega, hb.out⟩
    ·have hf : Hid (mayB i t z l = false) := Lib.hid (by rw [hq.out, h1', decide_eq_false h2]; rfl)
     have h2a : decide ((z.length : Int) ≤ 64) = false := decide_eq_false (by omega)
     have h2b : decide (z.length ≤ 64) = false := decide_eq_false h2
     clear h1 h1' hq
     go_wp2
     go_ret
     exact ⟨by rw [hf.out]; rfl, hb.out⟩
set_option maxRecDepth 100000 in
theorem rmay_any (i t : Int) (Av Ad : Option Addr) (z : List Int) (l : List UInt8) (nv cv nd cd B : Nat) (hv : nv = z.length) (hd : nd = l.length) (w : World) (hB : B ≤ w.heap.size) (hr : Rd w B Av (z.map (Value.int .i64))) (hl : z.length ≤ 4611686018427387904) (hl2 : l.length ≤ 4611686018427387904) :
  Calls Tryz.prog 112 #[snapV i t Av nv cv Ad nd cd] w fun e w' => e = .returned (.bool (mayB i t z l)) ∧ Below w.heap.size w w' := by
 subst hv; subst hd
 unfold snapV
 go_enter Tryz.func112, Tryz.ntmps112
 go_wp2_with fail
 have hr1 := Lib.hid (hr.alloc hB (Obj.cells #[Value.int IntKind.i64 i, Value.int IntKind.i64 t, Value.slice Av z.length cv, Value.slice Ad l.length cd] 29))
 go_loop [4, 3] (fun a b => ∃ (k : Nat) (last : Int), k ≤ z.length ∧ a = .int .i64 k ∧ b = .int .i64 last ∧ Hid (rising 0 z = rising last (z.drop k))) (fun a _ => z.length - (intOf a).toNat)
 case atStart => exact ⟨0, 0, by omega, rfl, rfl, Lib.hid (by simp)⟩
 case round =>
  obtain ⟨k, last, hk, rfl, rfl, hst⟩ := hrel
  by_cases hlt : k < z.length
  ·obtain ⟨ad, rfl, hbk, hcell⟩ := rd_at hr1.out hlt
   have hkI : (k : Int) < z.length := by omega
   have hdc : z.drop k = z[k] :: z.drop (k + 1) := List.drop_eq_getElem_cons hlt
   by_cases ho : z[k] ≤ last
   ·have hfin : Hid (mayB i t z l = false) := Lib.hid (by have h := hst.out; rw [hdc, rising, decide_eq_false (by omega)] at h; unfold mayB; rw [h]; simp)
    have ho' : decide (z[k] ≤ last) = true := decide_eq_true ho
    generalize z[k] = x at hcell ho ho'
    clear hdc hst
    go_wp2
    go_ret
    exact ⟨by rw [hfin.out]; rfl, (Below.refl _ w).alloc (Nat.le_refl _) _⟩
   ·have hst2 : Hid (rising 0 z = rising z[k] (z.drop (k + 1))) := Lib.hid (by have h := hst.out; rw [hdc, rising, decide_eq_true (by omega), Bool.true_and] at h; exact h)
    have ho' : decide (z[k] ≤ last) = false := decide_eq_false ho
    generalize z[k] = x at hcell hst2 ho ho'
    clear hdc hst
    go_wp2
    exact ⟨⟨k + 1, x, by omega, by go_num, rfl, hst2⟩, by simp [intOf]; omega⟩
  ·obtain rfl : k = z.length := by omega
   have hfin : Hid (rising 0 z = true) := Lib.hid (by have h := hst.out; rw [List.drop_length] at h; rw [h]; rfl)
   clear hst
   have hq : Hid (mayB i t z l = ((!outB i && !outB t) && decide (z.length ≤ 64) && decide (l.length ≤ 1048576))) := Lib.hid (by unfold mayB; rw [hfin.out, Bool.true_and])
   have hb := Lib.hid ((Below.refl w.heap.size w).alloc (Nat.le_refl _) (Obj.cells #[Value.int IntKind.i64 i, Value.int IntKind.i64 t, Value.slice Av z.length cv, Value.slice Ad l.length cd] 29))
   clear hfin hr1
   have oi : Hid (outB i = (decide (i < 0) || decide (1099511627776 < i))) := Lib.hid rfl
   have ot : Hid (outB t = (decide (t < 0) || decide (1099511627776 < t))) := Lib.hid rfl
   by_cases c1 : i ≥ 0
   ·have d1 : decide (i ≥ 0) = true := decide_eq_true c1
    have g1 : Hid (decide (i < 0) = false) := Lib.hid (decide_eq_false (by omega))
    by_cases c2 : i ≤ 1099511627776
    ·have d2 : decide (i ≤ 1099511627776) = true := decide_eq_true c2
     have g2 : Hid (decide (1099511627776 < i) = false) := Lib.hid (decide_eq_false (by omega))
     by_cases c3 : t ≥ 0
     ·have d3 : decide (t ≥ 0) = true := decide_eq_true c3
      have g3 : Hid (decide (t < 0) = false) := Lib.hid (decide_eq_false (by omega))
      by_cases c4 : t ≤ 1099511627776
      ·have d4 : decide (t ≤ 1099511627776) = true := decide_eq_true c4
       have g4 : Hid (decide (1099511627776 < t) = false) := Lib.hid (decide_eq_false (by omega))
       by_cases c5 : z.length ≤ 64
       ·have d5 : decide ((z.length : Int) ≤ 64) = true := decide_eq_true (by omega)
        have d5' : decide (z.length ≤ 64) = true := decide_eq_true c5
        have hf : Hid (mayB i t z l = decide (l.length ≤ 1048576)) := Lib.hid (by rw [hq.out, oi.out, ot.out, g1.out, g2.out, g3.out, g4.out, d5']; rfl)
        clear hq oi ot
        go_wp2
        go_ret
        exact ⟨by rw [hf.out]; simp; omega, hb.out⟩
       ·have d5 : decide ((z.length : Int) ≤ 64) = false := decide_eq_false (by omega)
        have d5' : decide (z.length ≤ 64) = false := decide_eq_false c5
        have hf : Hid (mayB i t z l = false) := Lib.hid (by rw [hq.out, d5', Bool.and_false]; rfl)
        clear hq oi ot
        go_wp2
        go_ret
        exact ⟨by rw [hf.out]; rfl, hb.out⟩
      ·have d4 : decide (t ≤ 1099511627776) = false := decide_eq_false c4
       have hf : Hid (mayB i t z l = false) := Lib.hid (by rw [hq.out, ot.out, decide_eq_true (show 1099511627776 < t by omega), Bool.or_true]; simp)
       clear hq oi ot
       go_wp2
       go_ret
       exact ⟨by rw [hf.out]; rfl, hb.out⟩
     ·have d3 : decide (t ≥ 0) = false := decide_eq_false c3
      have hf : Hid (mayB i t z l = false) := Lib.hid (by rw [hq.out, ot.out, decide_eq_true (show t < 0 by omega), Bool.true_or]; simp)
      clear hq oi ot
      go_wp2
      go_ret
      exact ⟨by rw [hf.out]; rfl, hb.out⟩
    ·have d2 : decide (i ≤ 1099511627776) = false := decide_eq_false c2
     have hf : Hid (mayB i t z l = false) := Lib.hid (by rw [hq.out, oi.out, decide_eq_true (show 1099511627776 < i by omega), Bool.or_true]; simp)
     clear hq oi ot
     go_wp2
     go_ret
     exact ⟨by rw [hf.out]; rfl, hb.out⟩
   ·have d1 : decide (i ≥ 0) = false := decide_eq_false c1
    have hf : Hid (mayB i t z l = false) := Lib.hid (by rw [hq.out, oi.out, decide_eq_true (show i < 0 by omega), Bool.true_or]; simp)
    clear hq oi ot
    go_wp2
    go_ret
    exact ⟨by rw [hf.out]; rfl, hb.out⟩
end Go.Proofs.YteehkcpokgeipaaGreatDoor
set_option linter.unusedVariables false
namespace Go.Proofs.YteehkcpokgeipaaGreatDoor
open Go.RowKit Oct
def snapE (i t : Int) (z : List Int) (l : List UInt8) : Int := if mayB i t z l = true then 0 else 1
def snapW (i t : Int) (z : List Int) (l : List UInt8) : List UInt8 := enc (fold1 i) ++ (enc (fold1 t) ++ (encZ z ++ l))
def snapS (i t : Int) (z : List Int) (l : List UInt8) : List UInt8 := if mayB i t z l = true then snapW i t z l else []
def SnapAt (W : World) (g : Nat) (i t : Int) (x y : Value) : Prop :=
 W.cell? ⟨g, 0, none⟩ = some (.int .i64 i) ∧ W.cell? ⟨g, 1, none⟩ = some (.int .i64 t) ∧ W.cell? ⟨g, 2, none⟩ = some x ∧ W.cell? ⟨g, 3, none⟩ = some y
theorem snapAt_new (w : World) (i t : Int) (x y : Value) : SnapAt (w.alloc (.cells #[.int .i64 i, .int .i64 t, x, y] 29)) w.heap.size i t x y := by
 have h := Blk.new w 29 #[.int .i64 i, .int .i64 t, x, y]
 exact ⟨h.cell 0, h.cell 1, h.cell 2, h.cell 3⟩
theorem SnapAt.below {w w' : World} {g B : Nat} {i t : Int} {x y : Value} (h : SnapAt w g i t x y) (hb : Below B w w') (hg : g < B) : SnapAt w' g i t x y :=
 ⟨(hb.cell hg).trans h.1, (hb.cell hg).trans h.2.1, (hb.cell hg).trans h.2.2.1, (hb.cell hg).trans h.2.2.2⟩
theorem encZ_len (z : List Int) (hz : ∀ n ∈ z, -9223372036854775808 ≤ n ∧ n ≤ 9223372036854775807) (h : z.length ≤ 64) : (encZ z).length ≤ 1000 := by
 have h1 := encs_len z hz
 have h2 := enc_len z.length (by omega)
 rw [encZ, if_neg (by omega), List.length_append]
 omega
theorem below_undrew {w w' : World} (h : Below w.drew.heap.size w.drew w') : Below w.heap.size w w' := ⟨h.os, h.tape, h.output, h.size, h.block⟩
theorem may_len {i t : Int} {z : List Int} {l : List UInt8} (h : mayB i t z l = true) : z.length ≤ 64 ∧ l.length ≤ 1048576 ∧ rising 0 z = true ∧ (0 ≤ i ∧ i ≤ 1099511627776) ∧ (0 ≤ t ∧ t ≤ 1099511627776) := by
 unfold mayB outB at h
 simp only [Bool.and_eq_true, Bool.not_eq_true', Bool.or_eq_false_iff, decide_eq_false_iff_not, decide_eq_true_eq] at h
 obtain ⟨⟨⟨h1, ⟨h2, h3⟩, h4, h5⟩, h6⟩, h7⟩ := h
 exact ⟨h6, h7, h1, ⟨by omega, by omega⟩, by omega, by omega⟩
set_option maxHeartbeats 4000000 in
set_option maxRecDepth 100000 in
theorem bytes_any (i t : Int) (Av Ad : Option Addr) (z : List Int) (l : List UInt8) (nv cv nd cd : Nat) (hv : nv = z.length) (hd : nd = l.length) (w : World) (hr : Rd w w.heap.size Av (z.map (Value.int .i64))) (hr2 : Rd w w.heap.size Ad (cells l))
  (hz : ∀ n ∈ z, -9223372036854775808 ≤ n ∧ n ≤ 9223372036854775807) (hl : z.length ≤ 140737488351232) (hl2 : l.length ≤ 4611686018427387904) :
  Calls Tryz.prog 11 #[snapV i t Av nv cv Ad nd cd] w fun e w' => ∃ v, e = .returned (.tuple #[v, .int .i64 (snapE i t z l)]) ∧ Got w' w.heap.size v (snapS i t z l) ∧ Below w.heap.size w w' := by
 subst hv; subst hd
 unfold snapV
 have hS0 := Lib.hid (snapAt_new w i t (.slice Av z.length cv) (.slice Ad l.length cd))
 have hb0 := Lib.hid ((Below.refl w.heap.size w).alloc (Nat.le_refl _) (Obj.cells #[.int .i64 i, .int .i64 t, .slice Av z.length cv, .slice Ad l.length cd] 29))
 have hsz : (w.alloc (Obj.cells #[.int .i64 i, .int .i64 t, .slice Av z.length cv, .slice Ad l.length cd] 29)).heap.size = w.heap.size + 1 := by simp
 have hsz := Lib.hid hsz
 have hmay := Lib.hid (may_any i t Av Ad z l _ cv _ cd w.heap.size rfl rfl _ (by rw [hsz.out]; omega) (hr.below hb0.out) (by omega) hl2)
 by_cases hm : mayB i t z l = true
 ·have hE : snapE i t z l = 0 := if_pos hm
  have HC : Hid (snapS i t z l = snapW i t z l) := Lib.hid (if_pos hm)
  have hlen := Lib.hid (may_len hm)
  rw [hm] at hmay
  rw [hE]
  clear hm hE
  go_enter Tryz.func11, Tryz.ntmps11
  go_wp2_with fail
  refine hmay.out.mono ?_
  clear hmay
  rintro e w1 ⟨rfl, hb1⟩
  rw [hsz.out] at hb1
  have hS1 := Lib.hid (hS0.out.below hb1 (by omega))
  have hb01 := Lib.hid (hb0.out.trans (hb1.mono (by omega)))
  have hs1 : w.heap.size + 1 ≤ w1.heap.size := by have := hb1.size; rw [hsz.out] at this; exact this
  clear hb1 hS0 hb0 hsz
  obtain ⟨c0, c1, c2, c3⟩ := hS1.out
  go_wp2_with fail
  refine (ints_tot Av z _ cv rfl w1 ((hr.below hb01.out).more hb01.out.size) hz hl).mono ?_
  rintro e w2 ⟨v2, rfl, hov2, hb2⟩
  have hS2 := Lib.hid (hS1.out.below hb2 (by omega))
  have hb02 := Lib.hid (hb01.out.trans (hb2.mono (by omega)))
  have hs2 : w.heap.size + 1 ≤ w2.heap.size := Nat.le_trans hs1 hb2.size
  have HOV2 := Lib.hid (hov2.mono hs1)
  clear hb2 hS1 hb01 c0 c1 c2 c3 hov2 hs1
  obtain ⟨A2, c2, rfl, hc2, hm2, hr3⟩ := bs_shape HOV2.out
  have HR3 := Lib.hid hr3
  have hlz := Lib.hid (encZ_len z hz hlen.out.1)
  have hli := Lib.hid (enc_len (fold1 i) (by have := fold1_lt i (by have := hlen.out; omega); omega))
  have hlt := Lib.hid (enc_len (fold1 t) (by have := fold1_lt t (by have := hlen.out; omega); omega))
  clear hr3 hc2 hm2 HOV2
  go_upto_region 4 with fail
  refine wp_region_held_drew (S := fun W => SnapAt W w.heap.size i t (.slice Av z.length cv) (.slice Ad l.length cd)) (by kernel_rfl) hS2.out (fun hHeld => ?_)
  refine held_take 0 (v := ?_) (by simp) (by kernel_rfl) (by kernel_rfl) (by kernel_rfl) (fun _ _ _ h => h) (Or.inl ⟨by rfl, ?_⟩) hHeld ?_
  case refine_2 => (intro w hSw; (try dsimp only at hSw); (try (obtain ⟨s0, s1, s2, s3⟩ := hSw)); simp only [List.getElem_cons_zero]; go_simp <;> with_reducible rfl)
  simp only [List.getElem_cons_zero, Act.put, List.setIfInBounds_toArray, List.set_cons_zero, List.set_cons_succ]
  refine held_take 1 (v := ?_) (by simp) (by kernel_rfl) (by kernel_rfl) (by kernel_rfl) (fun _ _ _ h => h) (Or.inl ⟨by rfl, ?_⟩) hHeld ?_
  case refine_2 => (intro w hSw; (try dsimp only at hSw); (try (obtain ⟨s0, s1, s2, s3⟩ := hSw)); simp only [List.getElem_cons_zero, List.getElem_cons_succ]; go_simp <;> with_reducible rfl)
  simp only [List.getElem_cons_zero, List.getElem_cons_succ, Act.put, List.setIfInBounds_toArray, List.set_cons_zero, List.set_cons_succ]
  refine held_take 3 (v := ?_) (by simp) (by kernel_rfl) (by kernel_rfl) (by kernel_rfl) (fun _ _ _ h => h) (Or.inl ⟨by rfl, ?_⟩) hHeld ?_
  case refine_2 => (intro w hSw; (try dsimp only at hSw); (try (obtain ⟨s0, s1, s2, s3⟩ := hSw)); simp only [List.getElem_cons_zero, List.getElem_cons_succ]; go_simp <;> with_reducible rfl)
  simp only [List.getElem_cons_zero, List.getElem_cons_succ, Act.put, List.setIfInBounds_toArray, List.set_cons_zero, List.set_cons_succ]
  refine held_take 4 (v := ?_) (by simp) (by kernel_rfl) (by kernel_rfl) (by kernel_rfl) (fun _ _ _ h => h) (Or.inl ⟨by rfl, ?_⟩) hHeld ?_
  case refine_2 => (intro w hSw; (try dsimp only at hSw); (try (obtain ⟨s0, s1, s2, s3⟩ := hSw)); simp only [List.getElem_cons_zero, List.getElem_cons_succ]; go_simp <;> with_reducible rfl)
  simp only [List.getElem_cons_zero, List.getElem_cons_succ, Act.put, List.setIfInBounds_toArray, List.set_cons_zero, List.set_cons_succ]
  refine held_take 6 (v := ?_) (by simp) (by kernel_rfl) (by kernel_rfl) (by kernel_rfl) (fun _ _ _ h => h) (Or.inl ⟨by rfl, ?_⟩) hHeld ?_
  case refine_2 => (intro w hSw; (try dsimp only at hSw); (try (obtain ⟨s0, s1, s2, s3⟩ := hSw)); simp only [List.getElem_cons_zero, List.getElem_cons_succ]; go_simp <;> with_reducible rfl)
  simp only [List.getElem_cons_zero, List.getElem_cons_succ, Act.put, List.setIfInBounds_toArray, List.set_cons_zero, List.set_cons_succ]
  refine held_take 7 (v := ?_) (by simp) (by kernel_rfl) (by kernel_rfl) (by kernel_rfl) (fun _ _ _ h => h) (Or.inl ⟨by rfl, ?_⟩) hHeld ?_
  case refine_2 => (intro w hSw; (try dsimp only at hSw); (try (obtain ⟨s0, s1, s2, s3⟩ := hSw)); simp only [List.getElem_cons_zero, List.getElem_cons_succ]; go_simp <;> with_reducible rfl)
  simp only [List.getElem_cons_zero, List.getElem_cons_succ, Act.put, List.setIfInBounds_toArray, List.set_cons_zero, List.set_cons_succ]
  refine held_take 8 (v := ?_) (by simp) (by kernel_rfl) (by kernel_rfl) (by kernel_rfl) (fun _ _ _ h => h) (Or.inl ⟨by rfl, ?_⟩) hHeld ?_
  case refine_2 => (intro w hSw; (try dsimp only at hSw); (try (obtain ⟨s0, s1, s2, s3⟩ := hSw)); simp only [List.getElem_cons_zero, List.getElem_cons_succ]; go_simp <;> with_reducible rfl)
  simp only [List.getElem_cons_zero, List.getElem_cons_succ, Act.put, List.setIfInBounds_toArray, List.set_cons_zero, List.set_cons_succ]
  refine held_sole 2 (by simp) (by kernel_rfl) (fun K hK => ?_)
  simp only [List.getElem_cons_zero, List.getElem_cons_succ]
  go_simp
  refine (int_any i (by have := hlen.out; omega) _).mono ?_
  rintro e w3 ⟨v3, rfl, hov3, hb3⟩
  replace hb3 := below_undrew hb3
  obtain ⟨A3, c3, rfl, hc3, hm3, hr4⟩ := bs_shape hov3
  have hS3 := Lib.hid (hS2.out.below hb3 (by omega))
  have hb03 := Lib.hid (hb02.out.trans (hb3.mono hb02.out.size))
  have HR3 := Lib.hid ((HR3.out.below hb3).more hb3.size)
  have hs3 : w.heap.size + 1 ≤ w3.heap.size := Nat.le_trans hs2 hb3.size
  have HR4 := Lib.hid hr4
  clear hb3 hb02 hS2 hs2 hov3 hr4 hc3 hm3
  go_wp2_with fail
  refine hK.out _ _ hS3.out (fun hHeld => ?_)
  clear hK K
  try simp only [Act.put, List.setIfInBounds_toArray, List.set_cons_zero, List.set_cons_succ]
  refine held_sole 5 (by simp) (by kernel_rfl) (fun K hK => ?_)
  simp only [List.getElem_cons_zero, List.getElem_cons_succ]
  go_simp
  refine (int_any t (by have := hlen.out; omega) _).mono ?_
  rintro e w4 ⟨v4, rfl, hov4, hb4⟩
  obtain ⟨A4, c4, rfl, hc4, hm4, hr5⟩ := bs_shape hov4
  have hS4 := Lib.hid (hS3.out.below hb4 (by omega))
  have hb04 := Lib.hid (hb03.out.trans (hb4.mono hb03.out.size))
  have hp4 := RRd.cons (c := c3) ((HR4.out.below hb4).more hb4.size) (by have := hli.out; omega) (.cons (c := c4) hr5 (by have := hlt.out; omega) (.cons (c := c2) ((HR3.out.below hb4).more hb4.size) (by have := hlz.out; omega) (.cons (c := cd) ((hr2.below hb04.out).more hb04.out.size) hl2 .nil)))
  have hs4 : w.heap.size + 1 ≤ w4.heap.size := Nat.le_trans hs3 hb4.size
  obtain ⟨k1, k2⟩ := rows_lit w4 27 _ hp4
  have K1 := Lib.hid k1
  have K2 := Lib.hid k2
  have HFL := Lib.hid (show flat [Row.mk A3 (enc (fold1 i)) c3, Row.mk A4 (enc (fold1 t)) c4, Row.mk A2 (encZ z) c2, Row.mk Ad l cd] = snapW i t z l by simp [flat, snapW])
  have HLN := Lib.hid (show (snapW i t z l).length ≤ 140737488351232 by unfold snapW; have h1 := hli.out; have h2 := hlt.out; have h3 := hlz.out; have h4 := hlen.out; simp only [List.length_append]; omega)
  have hbA := Lib.hid (hb04.out.alloc hb04.out.size (.cells ([Row.mk A3 (enc (fold1 i)) c3, Row.mk A4 (enc (fold1 t)) c4, Row.mk A2 (encZ z) c2, Row.mk Ad l cd].map Row.val).toArray 27))
  have hSA := Lib.hid (hS4.out.below ((Below.refl w4.heap.size w4).alloc (Nat.le_refl _) (.cells ([Row.mk A3 (enc (fold1 i)) c3, Row.mk A4 (enc (fold1 t)) c4, Row.mk A2 (encZ z) c2, Row.mk Ad l cd].map Row.val).toArray 27)) (by omega))
  clear hb4 hb03 hS3 hs3 hov4 hr5 hc4 hm4 hp4 k1 k2 HR3 HR4 hli hlt hlz
  go_wp2_with fail
  refine hK.out _ _ hS4.out (fun hHeld => ?_)
  clear hK K
  try simp only [Act.put, List.setIfInBounds_toArray, List.set_cons_zero, List.set_cons_succ]
  refine held_sole 9 (by simp) (by kernel_rfl) (fun K hK => ?_)
  simp only [List.getElem_cons_zero, List.getElem_cons_succ]
  go_simp
  refine hK.out _ _ hSA.out (fun hHeld => ?_)
  clear hK K
  try simp only [Act.put, List.setIfInBounds_toArray, List.set_cons_zero, List.set_cons_succ]
  refine held_sole 10 (by simp) (by kernel_rfl) (fun K hK => ?_)
  simp only [List.getElem_cons_zero, List.getElem_cons_succ]
  go_simp
  refine (join_any _ [Row.mk A3 (enc (fold1 i)) c3, Row.mk A4 (enc (fold1 t)) c4, Row.mk A2 (encZ z) c2, Row.mk Ad l cd] 4 4 rfl _ K1.out K2.out (by simp) (by rw [HFL.out]; exact HLN.out) (by simp)).mono ?_
  rintro e w5 ⟨v5, rfl, hgot, hb5⟩
  rw [HFL.out, ← HC.out] at hgot
  have hb05 := Lib.hid (hbA.out.trans (hb5.mono hbA.out.size))
  have hS5 := Lib.hid (hSA.out.below hb5 (by simp; omega))
  have HG := Lib.hid (hgot.mono hbA.out.size)
  clear hgot hb5 hbA K1 K2 hSA
  go_wp2_with fail
  refine hK.out _ _ hS5.out (fun hHeld => ?_)
  clear hK K
  try simp only [Act.put, List.setIfInBounds_toArray, List.set_cons_zero, List.set_cons_succ]
  refine held_take 11 (v := ?_) (by simp) (by kernel_rfl) (by kernel_rfl) (by kernel_rfl) (fun _ _ _ h => h) (Or.inl ⟨by rfl, ?_⟩) hHeld ?_
  case refine_2 => (intro w hSw; (try dsimp only at hSw); (try (obtain ⟨s0, s1, s2, s3⟩ := hSw)); simp only [List.getElem_cons_zero, List.getElem_cons_succ]; go_simp <;> with_reducible rfl)
  simp only [List.getElem_cons_zero, List.getElem_cons_succ, Act.put, List.setIfInBounds_toArray, List.set_cons_zero, List.set_cons_succ]
  refine held_take 12 (v := ?_) (by simp) (by kernel_rfl) (by kernel_rfl) (by kernel_rfl) (fun _ _ _ h => h) (Or.inl ⟨by rfl, ?_⟩) hHeld ?_
  case refine_2 => (intro w hSw; (try dsimp only at hSw); (try (obtain ⟨s0, s1, s2, s3⟩ := hSw)); simp only [List.getElem_cons_zero, List.getElem_cons_succ]; go_simp <;> with_reducible rfl)
  simp only [List.getElem_cons_zero, List.getElem_cons_succ, Act.put, List.setIfInBounds_toArray, List.set_cons_zero, List.set_cons_succ]
  refine wpAnyH_done (by kernel_rfl) ?_ _
  go_wp2_with fail
  go_ret2
  exact ⟨_, rfl, HG.out, hb05.out⟩
 ·have hm' : mayB i t z l = false := by simpa using hm
  have hE : snapE i t z l = 1 := if_neg hm
  have HC : snapS i t z l = [] := if_neg hm
  rw [hm'] at hmay
  rw [hE, HC]
  clear hm hE HC hm'
  go_enter Tryz.func11, Tryz.ntmps11
  go_wp2_with fail
  refine hmay.out.mono ?_
  clear hmay
  rintro e w1 ⟨rfl, hb1⟩
  have hb01 := Lib.hid (hb0.out.trans (hb1.mono hb0.out.size))
  clear hb1 hS0 hb0 hsz
  go_wp2
  go_ret2
  exact ⟨_, rfl, .of_own (Own.nil _ _ _), hb01.out⟩
end Go.Proofs.YteehkcpokgeipaaGreatDoor
set_option linter.unusedVariables false
namespace Go.Proofs.YteehkcpokgeipaaGreatDoor
open Go.RowKit Oct
set_option maxHeartbeats 4000000 in
set_option maxRecDepth 100000 in
theorem rbytes_any (i t : Int) (Av Ad : Option Addr) (z : List Int) (l : List UInt8) (nv cv nd cd : Nat) (hv : nv = z.length) (hd : nd = l.length) (w : World) (hr : Rd w w.heap.size Av (z.map (Value.int .i64))) (hr2 : Rd w w.heap.size Ad (cells l))
  (hz : ∀ n ∈ z, -9223372036854775808 ≤ n ∧ n ≤ 9223372036854775807) (hl : z.length ≤ 140737488351232) (hl2 : l.length ≤ 4611686018427387904) :
  Calls Tryz.prog 72 #[snapV i t Av nv cv Ad nd cd] w fun e w' => ∃ v, e = .returned (.tuple #[v, .int .i64 (snapE i t z l)]) ∧ Bs w' w.heap.size v (snapS i t z l) ∧ Below w.heap.size w w' := by
 subst hv; subst hd
 unfold snapV
 have hS0 := Lib.hid (snapAt_new w i t (.slice Av z.length cv) (.slice Ad l.length cd))
 have hb0 := Lib.hid ((Below.refl w.heap.size w).alloc (Nat.le_refl _) (Obj.cells #[.int .i64 i, .int .i64 t, .slice Av z.length cv, .slice Ad l.length cd] 29))
 have hsz : (w.alloc (Obj.cells #[.int .i64 i, .int .i64 t, .slice Av z.length cv, .slice Ad l.length cd] 29)).heap.size = w.heap.size + 1 := by simp
 have hsz := Lib.hid hsz
 have hmay := Lib.hid (rmay_any i t Av Ad z l _ cv _ cd w.heap.size rfl rfl _ (by rw [hsz.out]; omega) (hr.below hb0.out) (by omega) hl2)
 by_cases hm : mayB i t z l = true
 ·have hE : snapE i t z l = 0 := if_pos hm
  have HC : Hid (snapS i t z l = snapW i t z l) := Lib.hid (if_pos hm)
  have hlen := Lib.hid (may_len hm)
  rw [hm] at hmay
  rw [hE]
  clear hm hE
  go_enter Tryz.func72, Tryz.ntmps72
  go_wp2_with fail
  refine hmay.out.mono ?_
  clear hmay
  rintro e w1 ⟨rfl, hb1⟩
  rw [hsz.out] at hb1
  have hS1 := Lib.hid (hS0.out.below hb1 (by omega))
  have hb01 := Lib.hid (hb0.out.trans (hb1.mono (by omega)))
  have hs1 : w.heap.size + 1 ≤ w1.heap.size := by have := hb1.size; rw [hsz.out] at this; exact this
  have hlz := Lib.hid (encZ_len z hz hlen.out.1)
  have hli := Lib.hid (enc_len (fold1 i) (by have := fold1_lt i (by have := hlen.out; omega); omega))
  have hlt := Lib.hid (enc_len (fold1 t) (by have := fold1_lt t (by have := hlen.out; omega); omega))
  clear hb1 hS0 hb0 hsz
  go_upto_region 4 with fail
  refine wp_region_held_drew (S := fun W => SnapAt W w.heap.size i t (.slice Av z.length cv) (.slice Ad l.length cd)) (by kernel_rfl) hS1.out (fun hHeld => ?_)
  refine held_take 0 (v := ?_) (by simp) (by kernel_rfl) (by kernel_rfl) (by kernel_rfl) (fun _ _ _ h => h) (Or.inl ⟨by rfl, ?_⟩) hHeld ?_
  case refine_2 => (intro w hSw; (try dsimp only at hSw); (try (obtain ⟨s0, s1, s2, s3⟩ := hSw)); simp only [List.getElem_cons_zero]; go_simp <;> with_reducible rfl)
  simp only [List.getElem_cons_zero, Act.put, List.setIfInBounds_toArray, List.set_cons_zero, List.set_cons_succ]
  refine held_take 1 (v := ?_) (by simp) (by kernel_rfl) (by kernel_rfl) (by kernel_rfl) (fun _ _ _ h => h) (Or.inl ⟨by rfl, ?_⟩) hHeld ?_
  case refine_2 => (intro w hSw; (try dsimp only at hSw); (try (obtain ⟨s0, s1, s2, s3⟩ := hSw)); simp only [List.getElem_cons_zero, List.getElem_cons_succ]; go_simp <;> with_reducible rfl)
  simp only [List.getElem_cons_zero, List.getElem_cons_succ, Act.put, List.setIfInBounds_toArray, List.set_cons_zero, List.set_cons_succ]
  refine held_take 3 (v := ?_) (by simp) (by kernel_rfl) (by kernel_rfl) (by kernel_rfl) (fun _ _ _ h => h) (Or.inl ⟨by rfl, ?_⟩) hHeld ?_
  case refine_2 => (intro w hSw; (try dsimp only at hSw); (try (obtain ⟨s0, s1, s2, s3⟩ := hSw)); simp only [List.getElem_cons_zero, List.getElem_cons_succ]; go_simp <;> with_reducible rfl)
  simp only [List.getElem_cons_zero, List.getElem_cons_succ, Act.put, List.setIfInBounds_toArray, List.set_cons_zero, List.set_cons_succ]
  refine held_take 4 (v := ?_) (by simp) (by kernel_rfl) (by kernel_rfl) (by kernel_rfl) (fun _ _ _ h => h) (Or.inl ⟨by rfl, ?_⟩) hHeld ?_
  case refine_2 => (intro w hSw; (try dsimp only at hSw); (try (obtain ⟨s0, s1, s2, s3⟩ := hSw)); simp only [List.getElem_cons_zero, List.getElem_cons_succ]; go_simp <;> with_reducible rfl)
  simp only [List.getElem_cons_zero, List.getElem_cons_succ, Act.put, List.setIfInBounds_toArray, List.set_cons_zero, List.set_cons_succ]
  refine held_sole 2 (by simp) (by kernel_rfl) (fun K hK => ?_)
  simp only [List.getElem_cons_zero, List.getElem_cons_succ]
  go_simp
  refine (rint_any i (by have := hlen.out; omega) _).mono ?_
  rintro e w3 ⟨v3, rfl, hov3, hb3⟩
  replace hb3 := below_undrew hb3
  have hS3 := Lib.hid (hS1.out.below hb3 (by omega))
  have hb03 := Lib.hid (hb01.out.trans (hb3.mono hb01.out.size))
  have hs3 : w.heap.size + 1 ≤ w3.heap.size := Nat.le_trans hs1 hb3.size
  have HOV3 := Lib.hid (Own.mono (base' := w.heap.size + 1) hov3 hs1)
  clear hb3 hb01 hS1 hs1 hov3
  go_wp2_with fail
  refine hK.out _ _ hS3.out (fun hHeld => ?_)
  clear hK K
  try simp only [Act.put, List.setIfInBounds_toArray, List.set_cons_zero, List.set_cons_succ]
  refine held_sole 5 (by simp) (by kernel_rfl) (fun K hK => ?_)
  simp only [List.getElem_cons_zero, List.getElem_cons_succ]
  go_simp
  refine (rint_any t (by have := hlen.out; omega) _).mono ?_
  rintro e w4 ⟨v4, rfl, hov4, hb4⟩
  obtain ⟨A4, c4, rfl, hc4, hm4, hr4⟩ := bs_shape hov4
  have hS4 := Lib.hid (hS3.out.below hb4 (by omega))
  have hb04 := Lib.hid (hb03.out.trans (hb4.mono hb03.out.size))
  have hs4 : w.heap.size + 1 ≤ w4.heap.size := Nat.le_trans hs3 hb4.size
  have HOV4 := Lib.hid (Own.below HOV3.out hb4 (Nat.le_refl _))
  have HR4 := Lib.hid hr4
  clear hb4 hb03 hS3 hs3 hov4 hr4 hc4 hm4 HOV3
  go_wp2_with fail
  refine hK.out _ _ hS4.out (fun hHeld => ?_)
  clear hK K
  try simp only [Act.put, List.setIfInBounds_toArray, List.set_cons_zero, List.set_cons_succ]
  refine held_sole 6 (by simp) (by kernel_rfl) (fun K hK => ?_)
  simp only [List.getElem_cons_zero, List.getElem_cons_succ]
  rw [if_pos (by rfl)]
  refine wp_append_any (.tmp 14) (.tmp 17) 27 rfl (w.heap.size + 1) 5 (.int .u8 0) 1 Tryz.underlying27 info_u8 rfl _ _ rfl HOV4.out w4.heap.size A4 (enc (fold1 t)).length c4 _ rfl (cells_length _).symm HR4.out (bytes_oneCell _) (by rw [cells_length]; unfold maxLen; have := hli.out; have := hlt.out; omega) (by rw [cells_length]; have := hli.out; have := hlt.out; omega) (by omega) ?_
  intro v5 w5 hown5 hg5 hf5
  have hb45 : Below (w.heap.size + 1) w4 w5 := (Below.refl _ w4).grown hg5 hs4 (fun k hk => (HOV4.out.lt k hk).1)
  have hS5 := Lib.hid (hS4.out.below hb45 (by omega))
  have hb05 := Lib.hid (hb04.out.trans (hb45.mono (by omega)))
  have hs5 : w.heap.size + 1 ≤ w5.heap.size := Nat.le_trans hs4 hb45.size
  rw [← cells_append] at hown5
  have HOV5 := Lib.hid hown5
  clear hb45 hown5 hg5 hf5 HOV4 HR4 hs4 hb04 hS4
  refine hK.out _ _ hS5.out (fun hHeld => ?_)
  clear hK K
  simp only [Act.put, List.setIfInBounds_toArray, List.set_cons_zero, List.set_cons_succ]
  refine held_take 7 (v := ?_) (by simp) (by kernel_rfl) (by kernel_rfl) (by kernel_rfl) (fun _ _ _ h => h) (Or.inl ⟨by rfl, ?_⟩) hHeld ?_
  case refine_2 => (intro w hSw; (try dsimp only at hSw); (try (obtain ⟨s0, s1, s2, s3⟩ := hSw)); simp only [List.getElem_cons_zero, List.getElem_cons_succ]; go_simp <;> with_reducible rfl)
  simp only [List.getElem_cons_zero, List.getElem_cons_succ, Act.put, List.setIfInBounds_toArray, List.set_cons_zero, List.set_cons_succ]
  refine wpAnyH_done (by kernel_rfl) ?_ _
  obtain ⟨c0, c1, c2, c3⟩ := hS5.out
  go_wp2_with fail
  refine (rints_tot Av z _ cv rfl w5 ((hr.below hb05.out).more hb05.out.size) hz hl).mono ?_
  rintro e w6 ⟨v6, rfl, hov6, hb6⟩
  obtain ⟨A6, c6, rfl, hc6, hm6, hr6⟩ := bs_shape hov6
  have hS6 := Lib.hid (hS5.out.below hb6 (by omega))
  have hb06 := Lib.hid (hb05.out.trans (hb6.mono hb05.out.size))
  have hs6 : w.heap.size + 1 ≤ w6.heap.size := Nat.le_trans hs5 hb6.size
  have HOV6 := Lib.hid (Own.below HOV5.out hb6 (Nat.le_refl _))
  have HR6 := Lib.hid hr6
  clear hb6 hb05 hS5 hs5 hov6 hr6 hc6 hm6 HOV5 c0 c1 c2 c3
  go_wp2_with (at_builtin; refine wpList_append_any rfl (.tmp 25) (.tmp 26) 27 rfl (w.heap.size + 1) 5 (.int .u8 0) 1 Tryz.underlying27 info_u8 rfl _ _ rfl HOV6.out w6.heap.size A6 (encZ z).length c6 _ rfl (cells_length _).symm HR6.out (bytes_oneCell _) (by rw [cells_length, List.length_append]; unfold maxLen; have := hli.out; have := hlt.out; have := hlz.out; omega) (by rw [cells_length, List.length_append]; have := hli.out; have := hlt.out; have := hlz.out; omega) (by omega) ?_)
  intro v7 w7 hown7 hg7 hf7
  have hb67 : Below (w.heap.size + 1) w6 w7 := (Below.refl _ w6).grown hg7 hs6 (fun k hk => (HOV6.out.lt k hk).1)
  have hS7 := Lib.hid (hS6.out.below hb67 (by omega))
  have hb07 := Lib.hid (hb06.out.trans (hb67.mono (by omega)))
  have hs7 : w.heap.size + 1 ≤ w7.heap.size := Nat.le_trans hs6 hb67.size
  rw [← cells_append] at hown7
  have HOV7 := Lib.hid hown7
  clear hb67 hown7 hg7 hf7 HOV6 HR6 hs6 hb06 hS6
  obtain ⟨c0, c1, c2, c3⟩ := hS7.out
  go_wp2_with (at_builtin; refine wpList_append_any rfl (.tmp 28) (.tmp 30) 27 rfl (w.heap.size + 1) 5 (.int .u8 0) 1 Tryz.underlying27 info_u8 rfl _ _ rfl HOV7.out w7.heap.size Ad l.length cd _ rfl (cells_length _).symm ((hr2.below hb07.out).more hb07.out.size) (bytes_oneCell _) (by rw [cells_length, List.length_append, List.length_append]; unfold maxLen; have := hli.out; have := hlt.out; have := hlz.out; have := hlen.out; omega) (by rw [cells_length, List.length_append, List.length_append]; have := hli.out; have := hlt.out; have := hlz.out; have := hlen.out; omega) (by omega) ?_)
  intro v8 w8 hown8 hg8 hf8
  have hb78 : Below (w.heap.size + 1) w7 w8 := (Below.refl _ w7).grown hg8 hs7 (fun k hk => (HOV7.out.lt k hk).1)
  have hb08 := Lib.hid (hb07.out.trans (hb78.mono (by omega)))
  rw [← cells_append, List.append_assoc, List.append_assoc] at hown8
  have HOV8 : Hid (Bs w8 w.heap.size v8 (snapS i t z l)) := Lib.hid (by rw [HC.out]; exact Own.mono hown8 (by omega))
  clear hb78 hown8 hg8 hf8 HOV7 hs7 hb07 hS7 c0 c1 c2 c3
  go_wp2
  go_ret2
  exact ⟨_, rfl, HOV8.out, hb08.out⟩
 ·have hm' : mayB i t z l = false := by simpa using hm
  have hE : snapE i t z l = 1 := if_neg hm
  have HC : snapS i t z l = [] := if_neg hm
  rw [hm'] at hmay
  rw [hE, HC]
  clear hm hE HC hm'
  go_enter Tryz.func72, Tryz.ntmps72
  go_wp2_with fail
  refine hmay.out.mono ?_
  clear hmay
  rintro e w1 ⟨rfl, hb1⟩
  have hb01 := Lib.hid (hb0.out.trans (hb1.mono hb0.out.size))
  clear hb1 hS0 hb0 hsz
  go_wp2
  go_ret2
  exact ⟨_, rfl, Own.nil _ _ _, hb01.out⟩
end Go.Proofs.YteehkcpokgeipaaGreatDoor
