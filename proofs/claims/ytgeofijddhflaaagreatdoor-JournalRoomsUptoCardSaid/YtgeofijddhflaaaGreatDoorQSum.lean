/- Plain maths of the check sum: eight turns of a register are linear, so a table of them serves. No condition. -/
import Derived.Test.YtgeofijddhflaaaGreatDoorQTot
import Derived.Laws.BitsAllLaws
import Derived.Deep.DeepCutAuto
import Derived.Deep.WholeRow
namespace Go.Proofs.YtgeofijddhflaaaGreatDoor
namespace Crc
def cs (s : Nat) : Nat := (s * 2 % 4294967296) ^^^ (if s.testBit 31 then 79764919 else 0)
def csn : Nat → Nat → Nat
 | 0, s => s
 | k + 1, s => cs (csn k s)
def tab (i : Nat) : Nat := csn 8 (i * 16777216)
def byte (s c : Nat) : Nat := csn 8 (s ^^^ c * 16777216)
def reg (s : Nat) (l : List UInt8) : Nat := l.foldl (fun s c => byte s c.toNat) s
def sum (l : List UInt8) : Nat := 4294967295 - reg 4294967295 l
theorem cs_lt {s : Nat} : cs s < 4294967296 := by
 unfold cs
 refine Nat.xor_lt_two_pow (n := 32) (Nat.mod_lt _ (by omega)) ?_
 split <;> omega
theorem csn_lt {k s : Nat} (h : s < 4294967296) : csn k s < 4294967296 := by
 cases k with
 | zero => exact h
 | succ k => exact cs_lt
theorem top {s : Nat} (h : s < 4294967296) : s.testBit 31 = decide (2147483648 ≤ s) := by
 rw [Nat.testBit_eq_decide_div_mod_eq]
 congr 1
 apply propext
 omega
theorem dbl (s i : Nat) : (s * 2 % 4294967296).testBit i = (decide (i < 32) && (decide (1 ≤ i) && s.testBit (i - 1))) := by
 rw [show (4294967296 : Nat) = 2 ^ 32 from rfl, Nat.testBit_mod_two_pow, show s * 2 = s <<< 1 by rw [Nat.shiftLeft_eq], Nat.testBit_shiftLeft]
theorem cs_xor (a b : Nat) : cs (a ^^^ b) = cs a ^^^ cs b := by
 apply Nat.eq_of_testBit_eq
 intro i
 unfold cs
 simp only [Nat.testBit_xor, dbl]
 cases decide (i < 32) <;> cases decide (1 ≤ i) <;> cases a.testBit 31 <;> cases b.testBit 31 <;> cases a.testBit (i - 1) <;> cases b.testBit (i - 1) <;> simp
theorem csn_xor (k a b : Nat) : csn k (a ^^^ b) = csn k a ^^^ csn k b := by
 induction k with
 | zero => rfl
 | succ k ih => simp only [csn]; rw [ih, cs_xor]
theorem csn_low (k s : Nat) (h : s * 2 ^ k < 4294967296) : csn k s = s * 2 ^ k := by
 induction k with
 | zero => simp [csn]
 | succ k ih =>
  rw [Nat.pow_succ, ← Nat.mul_assoc] at h ⊢
  rw [csn, ih (by omega), cs, top (by omega), decide_eq_false (by omega)]
  simp
  omega
theorem split24 (s : Nat) : s = (s / 16777216 * 16777216) ^^^ (s % 16777216) := by
 apply Nat.eq_of_testBit_eq
 intro i
 rw [Nat.testBit_xor, show (16777216 : Nat) = 2 ^ 24 from rfl, Nat.testBit_mod_two_pow, ← Nat.shiftLeft_eq, Nat.testBit_shiftLeft, ← Nat.shiftRight_eq_div_pow, Nat.testBit_shiftRight]
 by_cases h : i < 24
 ·simp [h, show ¬ 24 ≤ i by omega]
 ·simp [h, show 24 ≤ i by omega]
theorem byte_tab (s c : Nat) : byte s c = (s * 256 % 4294967296) ^^^ tab ((s / 16777216) ^^^ c) := by
 have h1 : s ^^^ c * 16777216 = ((s / 16777216) ^^^ c) * 16777216 ^^^ (s % 16777216) := by
  have h2 : ((s / 16777216) ^^^ c) * 16777216 = (s / 16777216 * 16777216) ^^^ (c * 16777216) := by
   rw [show (16777216 : Nat) = 2 ^ 24 from rfl, ← Nat.shiftLeft_eq, ← Nat.shiftLeft_eq, ← Nat.shiftLeft_eq, Nat.shiftLeft_xor_distrib]
  rw [h2]
  conv => lhs; rw [split24 s]
  rw [Nat.xor_assoc, Nat.xor_assoc, Nat.xor_comm (s % 16777216)]
 unfold byte tab
 rw [h1, csn_xor, csn_low 8 (s % 16777216) (by omega), Nat.xor_comm]
 congr 1
 omega
theorem byte_lt {s c : Nat} (h : s < 4294967296) (hc : c < 256) : byte s c < 4294967296 :=
 csn_lt (Nat.xor_lt_two_pow (n := 32) h (by omega))
theorem reg_lt (l : List UInt8) : ∀ {s : Nat}, s < 4294967296 → reg s l < 4294967296 := by
 induction l with
 | nil => intro s h; exact h
 | cons c r ih => intro s h; exact ih (byte_lt h c.toNat_lt)
theorem reg_snoc (s : Nat) (l : List UInt8) (c : UInt8) : reg s (l ++ [c]) = byte (reg s l) c.toNat := by simp [reg]
theorem reg_append (s : Nat) (a b : List UInt8) : reg s (a ++ b) = reg (reg s a) b := by simp [reg]
theorem sum_lt (l : List UInt8) : sum l < 4294967296 := by unfold sum; omega
theorem tab_lt {i : Nat} (h : i < 256) : tab i < 4294967296 := csn_lt (by omega)
def four (n : Nat) : List UInt8 := [UInt8.ofNat (n / 16777216), UInt8.ofNat (n / 65536), UInt8.ofNat (n / 256), UInt8.ofNat n]
theorem four_length (n : Nat) : (four n).length = 4 := rfl
theorem turn_bits (s : Nat) (h : s < 4294967296) : bits .xor .u32 ((s : Int) * 2 % 4294967296) (bits .and .u32 79764919 (-((s : Int) / 2147483648) % 4294967296)) = (cs s : Int) := by
 have e1 : (s : Int) * 2 % 4294967296 = ((s * 2 % 4294967296 : Nat) : Int) := by omega
 rw [e1]
 unfold cs
 rw [top h]
 by_cases h2 : 2147483648 ≤ s
 ·have e2 : -((s : Int) / 2147483648) % 4294967296 = ((4294967295 : Nat) : Int) := by
   rw [show (s : Int) / 2147483648 = 1 by omega]
   rfl
  rw [e2, show (79764919 : Int) = ((79764919 : Nat) : Int) from rfl, u32_and_nat _ _ (by omega) (by omega), show (79764919 &&& 4294967295 : Nat) = 79764919 from rfl, u32_xor_nat _ _ (Nat.mod_lt _ (by omega)) (by omega)]
  simp [h2]
 ·have e2 : -((s : Int) / 2147483648) % 4294967296 = ((0 : Nat) : Int) := by
   rw [show (s : Int) / 2147483648 = 0 by omega]
   rfl
  rw [e2, show (79764919 : Int) = ((79764919 : Nat) : Int) from rfl, u32_and_nat _ _ (by omega) (by omega), show (79764919 &&& 0 : Nat) = 0 from rfl, u32_xor_nat _ _ (Nat.mod_lt _ (by omega)) (by omega)]
  simp [h2]
end Crc
end Go.Proofs.YtgeofijddhflaaaGreatDoor
set_option linter.unusedVariables false
namespace Go.Proofs.YtgeofijddhflaaaGreatDoor
open Go.RowKit Oct
def TabOk (cs : Array Value) (k : Nat) : Prop := cs.size = 256 ∧ ∀ j, j < k → cs[j]? = some (.int .u32 (Crc.tab j : Nat))
theorem TabOk.start : TabOk Tryz.zeroCells222 0 := ⟨Tryz.zeroCells222_size, fun j h => absurd h (by omega)⟩
theorem TabOk.set {cs : Array Value} {k : Nat} (h : TabOk cs k) (hk : k < 256) : TabOk (cs.setIfInBounds k (.int .u32 (Crc.tab k : Nat))) (k + 1) := by
 refine ⟨by rw [Array.size_setIfInBounds]; exact h.1, fun j hj => ?_⟩
 by_cases hjk : j = k
 ·subst hjk
  rw [Array.getElem?_setIfInBounds_self_of_lt (by rw [h.1]; exact hk)]
 ·rw [Array.getElem?_setIfInBounds_ne (by omega)]
  exact h.2 j (by omega)
theorem TabOk.one {cs : Array Value} (h : TabOk cs 256) : cs.all (·.oneCell') = true := by
 rw [Array.all_eq_true]
 intro i hi
 have h2 := h.2 i (by rw [h.1] at hi; exact hi)
 rw [Array.getElem?_eq_getElem hi] at h2
 rw [Option.some.inj h2]
 rfl
theorem tab_info : (Tryz.prog.info? 222).map (·.size) = some 256 := by kernel_rfl
section
variable {w : World} {g : Nat} {cs cs' : Array Value}
theorem setRow_same (hb : Blk w g 222 cs) : w.setRow g cs = w := by
 unfold World.setRow
 congr 1
 apply Array.ext_getElem?
 intro i
 rw [Array.getElem?_modify]
 split
 ·rename_i h
  subst h
  rw [show w.heap[g]? = _ from hb]
  rfl
 ·rfl
end
set_option maxRecDepth 100000 in
theorem steps_at (w : World) : Calls Tryz.prog 188 #[] w fun e w' => ∃ cs, e = .returned (.agg cs) ∧ TabOk cs 256 ∧ Below w.heap.size w w' := by
 go_enter Tryz.func188, Tryz.ntmps188
 go_wp2_with fail
 go_loopw [3, 1, 2] (fun i y1 y2 wr => ∃ k : Nat, k ≤ 256 ∧ i = .int .i64 k ∧ ∃ cs, Blk wr w.heap.size 222 cs ∧ Hid (TabOk cs k) ∧ Below w.heap.size w wr) (fun i _ _ _ => 256 - (intOf i).toNat)
 case atStart => exact ⟨0, by omega, rfl, _, Blk.new _ _ _, Lib.hid TabOk.start, (Below.refl _ _).alloc (Nat.le_refl _) _⟩
 case round =>
  obtain ⟨k, hk, rfl, cs, hblk, htab, hb⟩ := hrel
  by_cases hlt : k < 256
  ·go_wp2_with fail
   obtain ⟨wo, hwo⟩ : ∃ wo : World, wo = wr := ⟨_, rfl⟩
   rw [← hwo] at hblk hb ⊢
   clear hwo
   go_loop [9, 2] (fun i r => ∃ q : Nat, q ≤ 8 ∧ i = .int .i64 q ∧ r = .int .u32 (Crc.csn q (k * 16777216) : Nat)) (fun i _ => 8 - (intOf i).toNat)
   case atStart => exact ⟨0, by omega, rfl, by simp [Crc.csn]⟩
   case round =>
    obtain ⟨q, hq, rfl, rfl⟩ := hrel
    by_cases hq8 : q < 8
    ·have hs : Crc.csn q (k * 16777216) < 4294967296 := Crc.csn_lt (by omega)
     have ht := Crc.turn_bits _ hs
     go_wp2
     exact ⟨⟨q + 1, by omega, by go_num, rfl⟩, by simp [intOf]; omega⟩
    ·obtain rfl : q = 8 := by omega
     have hcell : ∃ u, wo.cell? ⟨w.heap.size, k, none⟩ = some u := by
      rw [hblk.cell]
      exact ⟨_, Array.getElem?_eq_getElem (by rw [htab.out.1]; exact hlt)⟩
     obtain ⟨u, hcell⟩ := hcell
     have hfr := hblk.frozen k
     have hset := htab.out.set hlt
     have hb2 := hb.grown (grown_setCell wo w.heap.size k (.int .u32 (Crc.tab k : Nat))) hb.size (fun k hk => by injection hk with hk; omega)
     go_wp2
     exact ⟨⟨k + 1, by omega, by go_num, _, hblk.set_ k _, Lib.hid hset, hb2⟩, by simp [intOf]; omega⟩
  ·obtain rfl : k = 256 := by omega
   go_upto_region 11 with fail
   refine wp_region_lit ?_
   refine wpList_load_row rfl 222 (.tmp 0) rfl w.heap.size rfl 222 cs (0, 0) _ hblk Tryz.underlying222 rfl (by rw [htab.out.1]; exact tab_info) ?_
   refine wpList_store_row rfl 222 (.tmp 0) (.tmp 23) rfl w.heap.size cs rfl rfl 222 cs hblk (by rw [htab.out.1]; exact tab_info) rfl htab.out.one ?_
   rw [setRow_same hblk]
   go_wp2
   refine bodyPost_ret (v := .agg cs) (results_cell_row Tryz.results188 _ wr w.heap.size 222 cs (0, 0) _ rfl hblk Tryz.underlying222 rfl (by rw [htab.out.1]; exact tab_info)) rfl ⟨cs, rfl, htab.out, hb⟩
end Go.Proofs.YtgeofijddhflaaaGreatDoor
set_option linter.unusedVariables false
namespace Go.Proofs.YtgeofijddhflaaaGreatDoor
open Go.RowKit Oct
structure Row where
 a : Option Addr
 l : List UInt8
 c : Nat
def Row.val (r : Row) : Value := .slice r.a r.l.length r.c
def RRd (w : World) (B : Nat) (ps : List Row) : Prop := ∀ p ∈ ps, Rd w B p.a (cells p.l) ∧ p.l.length ≤ 4611686018427387904
def flat (ps : List Row) : List UInt8 := ps.flatMap Row.l
theorem flat_take (ps : List Row) (k : Nat) (h : k < ps.length) : flat (ps.take (k + 1)) = flat (ps.take k) ++ ps[k].l := by
 unfold flat
 rw [List.take_add_one, List.getElem?_eq_getElem h]
 simp only [List.flatMap_append, Option.toList_some, List.flatMap_cons, List.flatMap_nil, List.append_nil]
theorem reg_take (s : Nat) (l : List UInt8) (k : Nat) (h : k < l.length) : Crc.reg s (l.take (k + 1)) = Crc.byte (Crc.reg s (l.take k)) l[k].toNat := by
 rw [List.take_add_one, List.getElem?_eq_getElem h]
 exact Crc.reg_snoc _ _ _
theorem top_xor {r b : Nat} (hr : r < 4294967296) (hb : b < 256) : (r / 16777216) ^^^ b < 256 := Nat.xor_lt_two_pow (n := 8) (by omega) hb
theorem not32 (r : Nat) (h : r < 4294967296) : (4294967295 ^^^ r : Nat) = 4294967295 - r := by
 have h2 : ∀ x : BitVec 32, (BitVec.allOnes 32 ^^^ x) = ~~~ x := fun x => BitVec.allOnes_xor
 have h3 := congrArg BitVec.toNat (h2 (BitVec.ofNat 32 r))
 rw [BitVec.toNat_not, BitVec.toNat_xor, BitVec.toNat_ofNat, Nat.mod_eq_of_lt (by omega)] at h3
 simpa using h3
theorem sum_not (l : List UInt8) : bits .xor .u32 IntKind.u32.max (Crc.reg 4294967295 l : Nat) = (Crc.sum l : Nat) := by
 have h := Crc.reg_lt l (s := 4294967295) (by omega)
 rw [show IntKind.u32.max = ((4294967295 : Nat) : Int) from rfl, u32_xor_nat _ _ (by omega) h, not32 _ h]
 rfl
set_option maxHeartbeats 1000000 in
set_option maxRecDepth 100000 in
theorem sum_any (A : Option Addr) (ps : List Row) (n c : Nat) (hn : n = ps.length) (w : World) (hr : Rd w w.heap.size A (ps.map Row.val)) (hp : RRd w w.heap.size ps) (hl : ps.length ≤ 4611686018427387904) :
  Calls Tryz.prog 153 #[.slice A n c] w fun e w' => e = .returned (.int .i64 (Crc.sum (flat ps) : Nat)) ∧ Below w.heap.size w w' := by
 subst hn
 have HP := Lib.hid hp
 clear hp
 go_enter Tryz.func153, Tryz.ntmps153
 go_wp2_with fail
 refine (steps_at w).mono ?_
 rintro e w1 ⟨cs, rfl, htab, hb1⟩
 go_wp2_with (refine wpList_store_row rfl 222 (.tmp 3) (.tmp 9) rfl w1.heap.size cs rfl rfl 222 _ (Blk.new w1 _ _) (by rw [htab.1]; exact tab_info) (by rw [htab.1]; exact Tryz.zeroCells222_size) htab.one ?_)
 rw [World.setRow_alloc_new]
 have hb2 : Below w.heap.size w (w1.alloc (.cells cs 222)) := hb1.alloc hb1.size _
 have hblk : Blk (w1.alloc (.cells cs 222)) w1.heap.size 222 cs := Blk.new _ _ _
 have HT := Lib.hid htab
 generalize w1.alloc (.cells cs 222) = w2 at hb2 hblk ⊢
 generalize w1.heap.size = g at hblk ⊢
 clear hb1 htab
 have hr2 := hr.below hb2
 go_loop [12, 4, 6, 8] (fun i r _ _ => ∃ k : Nat, k ≤ ps.length ∧ i = .int .i64 k ∧ r = .int .u32 (Crc.reg 4294967295 (flat (ps.take k)) : Nat)) (fun i _ _ _ => ps.length - (intOf i).toNat)
 case atStart => exact ⟨0, by omega, rfl, rfl⟩
 case round =>
  obtain ⟨k, hk, rfl, rfl⟩ := hrel
  by_cases hlt : k < ps.length
  ·obtain ⟨ad, rfl, hbk, hcell⟩ := rd_at hr2 hlt
   have hps := Lib.hid (HP.out _ (List.getElem_mem hlt))
   obtain ⟨a, l, c', hrow⟩ : ∃ a l c', ps[k] = Row.mk a l c' := ⟨_, _, _, rfl⟩
   have HF := Lib.hid (flat_take ps k hlt)
   rw [hrow] at hcell hps HF
   have hcell' : w2.cell? (ad.add k) = some (.slice a l.length c') := hcell
   have hrl : Rd w2 w.heap.size a (cells l) := hps.out.1.below hb2
   have hll : l.length ≤ 4611686018427387904 := hps.out.2
   have hkI : (k : Int) < ps.length := by omega
   clear hrow hcell
   obtain ⟨R, hR⟩ : ∃ R, R = Crc.reg 4294967295 (flat (ps.take k)) := ⟨_, rfl⟩
   have hRlt : R < 4294967296 := by rw [hR]; exact Crc.reg_lt _ (by omega)
   rw [← hR]
   have HR := Lib.hid hR
   clear hR
   go_wp2_with fail
   go_loop [18, 4, 8] (fun i r _ => ∃ q : Nat, q ≤ l.length ∧ i = .int .i64 q ∧ r = .int .u32 (Crc.reg R (l.take q) : Nat)) (fun i _ _ => l.length - (intOf i).toNat)
   case atStart => exact ⟨0, by omega, rfl, rfl⟩
   case round =>
    obtain ⟨q, hq, rfl, rfl⟩ := hrel
    by_cases hql : q < l.length
    ·obtain ⟨ad2, rfl, hbk2, hcell2⟩ := rd_at hrl hql
     have hqI : (q : Int) < l.length := by omega
     have HS := Lib.hid (reg_take R l q hql)
     have hSlt := Crc.reg_lt (l.take q) hRlt
     generalize Crc.reg R (l.take q) = s at HS hSlt ⊢
     have hblt := l[q].toNat_lt
     have hx : bits .xor .u8 ((s : Int) / 16777216) (l[q].toNat : Int) = (((s / 16777216) ^^^ l[q].toNat : Nat) : Int) := by
      rw [u8_xor _ _ (by omega) (by omega) (by omega) (by omega)]
      congr 1
     have hxlt := top_xor hSlt hblt
     have hxc : w2.cell? ⟨g, (s / 16777216) ^^^ l[q].toNat, none⟩ = some (.int .u32 (Crc.tab ((s / 16777216) ^^^ l[q].toNat) : Nat)) := by
      rw [hblk.cell]
      exact HT.out.2 _ hxlt
     have hy : bits .xor .u32 ((s : Int) * 256 % 4294967296) (Crc.tab ((s / 16777216) ^^^ l[q].toNat) : Nat) = (Crc.byte s l[q].toNat : Nat) := by
      rw [Crc.byte_tab, show (s : Int) * 256 % 4294967296 = ((s * 256 % 4294967296 : Nat) : Int) by omega, u32_xor_nat _ _ (by omega) (Crc.tab_lt hxlt)]
     generalize (s / 16777216) ^^^ l[q].toNat = X at hx hxlt hxc hy
     go_wp2
     exact ⟨⟨q + 1, by omega, by go_num, by rw [HS.out]⟩, by simp [intOf]; omega⟩
    ·obtain rfl : q = l.length := by omega
     have hfin : Crc.reg R (l.take l.length) = Crc.reg 4294967295 (flat (ps.take (k + 1))) := by
      rw [List.take_length, HF.out, Crc.reg_append, HR.out]
     have HF2 := Lib.hid hfin
     clear hfin
     go_wp2
     exact ⟨⟨k + 1, by omega, by go_num, by rw [HF2.out]⟩, by simp [intOf]; omega⟩
  ·obtain rfl : k = ps.length := by omega
   have hfin := sum_not (flat ps)
   have hlt2 := Crc.sum_lt (flat ps)
   have hw : wrap64 ((Crc.sum (flat ps) : Nat) : Int) = (Crc.sum (flat ps) : Nat) := by unfold wrap64; omega
   go_wp2
   go_ret
   exact ⟨rfl, hb2⟩
end Go.Proofs.YtgeofijddhflaaaGreatDoor
set_option linter.unusedVariables false
namespace Go.Proofs.YtgeofijddhflaaaGreatDoor
open Go.RowKit Oct
theorem own_lit (w : World) (base : Nat) (e : TypeId) (xs : List Value) (n : Nat) (hn : n = xs.length) (hb : base ≤ w.heap.size) (hl : xs.length ≤ 9223372036854775807) : Own (w.alloc (.cells xs.toArray e)) base e (.slice (some ⟨w.heap.size, 0, none⟩) n n) xs := by
 subst hn
 exact ⟨by simp, .inr ⟨w.heap.size, xs.length, xs.toArray, rfl, hb, heap_alloc_new w _, Nat.le_refl _, by unfold maxLen; omega, by simp, by simp⟩⟩
theorem byte_val (x : Nat) (y : Int) (h : y % 256 = ((x % 256 : Nat) : Int)) : Value.int .u8 (y % 256) = .int .u8 (((UInt8.ofNat x).toNat : Nat) : Int) := by
 rw [UInt8.toNat_ofNat', h]
theorem four_cells (n : Nat) (h : n < 4294967296) : cells (Crc.four n) = [.int .u8 ((n : Int) / 16777216), .int .u8 ((n : Int) / 65536 % 256), .int .u8 ((n : Int) / 256 % 256), .int .u8 ((n : Int) % 256)] := by
 simp only [cells, Crc.four, List.map_cons, List.map_nil]
 rw [← byte_val (n / 16777216) ((n : Int) / 16777216) (by omega), ← byte_val (n / 65536) ((n : Int) / 65536) (by omega), ← byte_val (n / 256) ((n : Int) / 256) (by omega), ← byte_val n (n : Int) (by omega), show (n : Int) / 16777216 % 256 = (n : Int) / 16777216 by omega]
set_option maxRecDepth 100000 in
theorem four_any (n : Nat) (N : Int) (hN : N = (n : Int)) (h : n < 4294967296) (w : World) :
  Calls Tryz.prog 152 #[.int .i64 N] w fun e w' => ∃ v, e = .returned v ∧ Bs w' w.heap.size v (Crc.four n) ∧ Below w.heap.size w w' := by
 subst hN
 go_enter Tryz.func152, Tryz.ntmps152
 go_wp2
 go_ret
 refine ⟨_, rfl, ?_, (Below.refl _ _).alloc (Nat.le_refl _) _⟩
 have := own_lit w w.heap.size 5 (cells (Crc.four n)) 4 (by rw [cells_length]; rfl) (Nat.le_refl _) (by rw [cells_length]; simp [Crc.four])
 rw [four_cells n h] at this
 unfold Bs
 rw [four_cells n h]
 exact this
theorem str_beq (a b : List UInt8) : ((str a).toList == (str b).toList) = decide (a = b) := by
 rw [str_toList, str_toList]
 by_cases hab : a = b
 ·simp [hab]
 ·rw [decide_eq_false hab]
  exact beq_eq_false_iff_ne.2 hab
set_option maxRecDepth 100000 in
theorem equal_any (A B : Option Addr) (l m : List UInt8) (n1 n2 c d K : Nat) (hn1 : n1 = l.length) (hn2 : n2 = m.length) (w : World) (ha : Rd w K A (cells l)) (hb : Rd w K B (cells m)) :
  Calls Tryz.prog 151 #[.slice A n1 c, .slice B n2 d] w fun e w' => e = .returned (.bool (decide (l = m))) ∧ w = w' := by
 subst hn1; subst hn2
 have k1 := str_of c ha
 have k2 := str_of d hb
 have k3 := str_beq l m
 clear ha hb
 go_enter Tryz.func151, Tryz.ntmps151
 go_wp2
 go_ret
 exact ⟨rfl, rfl⟩
set_option maxRecDepth 100000 in
theorem clone_any (A : Option Addr) (l : List UInt8) (n c : Nat) (hn : n = l.length) (w : World) (hr : Rd w w.heap.size A (cells l)) (hl : l.length ≤ 140737488351232) :
  Calls Tryz.prog 73 #[.slice A n c] w fun e w' => ∃ v, e = .returned v ∧ Bs w' w.heap.size v l ∧ Below w.heap.size w w' := by
 subst hn
 cases A with
 | none =>
  have h0 : l = [] := by
   refine Classical.byContradiction fun h => ?_
   obtain ⟨ad, h1, _⟩ := hr (by rw [cells_length]; exact List.length_pos_iff.2 h)
   cases h1
  subst h0
  clear hr
  have he : ∀ W : World, (binOp .eql 34 (.slice none 0 c) (.slice none 0 0)).run Tryz.prog W = .ok (.bool true) W := fun _ => rfl
  go_enter Tryz.func73, Tryz.ntmps73
  go_wp2
  go_ret
  exact ⟨_, rfl, Own.nil _ _ _, Below.refl _ _⟩
 | some ad =>
  have he : ∀ W : World, (binOp .eql 34 (.slice (some ad) l.length c) (.slice none 0 0)).run Tryz.prog W = .ok (.bool false) W := fun _ => rfl
  go_enter Tryz.func73, Tryz.ntmps73
  go_wp2_with (at_builtin; refine wpList_app0 rfl (.tmp 5) (.tmp 6) 34 rfl 5 (.int .u8 0) 1 Tryz.underlying34 info_u8 rfl rfl (some ad) l.length c _ rfl (cells_length _).symm hr (bytes_one _) (by omega) (by omega) ?_; intro v1 w1 hov hb)
  go_ret
  exact ⟨_, rfl, hov, hb⟩
end Go.Proofs.YtgeofijddhflaaaGreatDoor
