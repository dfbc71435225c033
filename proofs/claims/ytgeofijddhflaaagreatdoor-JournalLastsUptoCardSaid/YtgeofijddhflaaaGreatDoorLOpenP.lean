/- Opening arguments that are snapshots and pieces. No condition. -/
import Derived.Test.YtgeofijddhflaaaGreatDoorLTot
import Derived.Deep.DeepCutAuto
import Derived.Deep.WholeRow
import Derived.Deep.Matrix
import Derived.Lib.SmallJoins
set_option linter.unusedVariables false
set_option linter.unusedSimpArgs false
set_option maxHeartbeats 8000000
set_option maxRecDepth 100000
namespace Go.Proofs.YtgeofijddhflaaaGreatDoor
section
namespace Crc
def cs (s : Nat) : Nat := (s * 2 % 4294967296) ^^^ (if s.testBit 31 then 79764919 else 0)
def csn : Nat -> Nat -> Nat
 | 0, s => s
 | k + 1, s => cs (csn k s)
def tab (i : Nat) : Nat := csn 8 (i * 16777216)
def byte (s c : Nat) : Nat := csn 8 (s ^^^ c * 16777216)
def reg (s : Nat) (l : List UInt8) : Nat := l.foldl (fun s c => byte s c.toNat) s
def sum (l : List UInt8) : Nat := 4294967295 - reg 4294967295 l
theorem dO5 {s : Nat} : cs s < 4294967296 := by
 unfold cs;refine Nat.xor_lt_two_pow (n := 32) (Nat.mod_lt _ (by omega)) ?_;split <;> omega
theorem csn_lt {k s : Nat} (h : s < 4294967296) : csn k s < 4294967296 := by
 cases k with
 | zero => exact h
 | succ k => exact dO5
theorem top {s : Nat} (h : s < 4294967296) : s.testBit 31 = decide (2147483648 <= s) := by
 rw [Nat.testBit_eq_decide_div_mod_eq]
 congr 1
 apply propext
 omega
theorem dbl (s i : Nat) : (s * 2 % 4294967296).testBit i = (decide (i < 32) && (decide (1 <= i) && s.testBit (i - 1))) := by
 rw [show (4294967296 : Nat) = 2 ^ 32 from rfl, Nat.testBit_mod_two_pow, show s * 2 = s <<< 1 by rw [Nat.shiftLeft_eq], Nat.testBit_shiftLeft]
theorem dM9 (a b : Nat) : cs (a ^^^ b) = cs a ^^^ cs b := by
 apply Nat.eq_of_testBit_eq
 intro i;unfold cs;simp only [Nat.testBit_xor, dbl];cases decide (i < 32) <;> cases decide (1 <= i) <;> cases a.testBit 31 <;> cases b.testBit 31 <;> cases a.testBit (i - 1) <;> cases b.testBit (i - 1) <;> simp
theorem dI4 (k a b : Nat) : csn k (a ^^^ b) = csn k a ^^^ csn k b := by
 induction k with
 | zero => rfl
 | succ k ih => simp only [csn]; rw [ih, dM9]
theorem dI3 (k s : Nat) (h : s * 2 ^ k < 4294967296) : csn k s = s * 2 ^ k := by
 induction k with
 | zero => simp [csn]
 | succ k ih =>
  rw [Nat.pow_succ, <- Nat.mul_assoc] at h ⊢;rw [csn, ih (by omega), cs, top (by omega), decide_eq_false (by omega)];simp
  omega
theorem dL1 (s : Nat) : s = (s / 16777216 * 16777216) ^^^ (s % 16777216) := by
 apply Nat.eq_of_testBit_eq
 intro i;rw [Nat.testBit_xor, show (16777216 : Nat) = 2 ^ 24 from rfl, Nat.testBit_mod_two_pow, <- Nat.shiftLeft_eq, Nat.testBit_shiftLeft, <- Nat.shiftRight_eq_div_pow, Nat.testBit_shiftRight];by_cases h : i < 24
 ·simp [h, show ¬ 24 <= i by omega]
 simp [h, show 24 <= i by omega]
theorem byte_tab (s c : Nat) : byte s c = (s * 256 % 4294967296) ^^^ tab ((s / 16777216) ^^^ c) := by
 have h1 : s ^^^ c * 16777216 = ((s / 16777216) ^^^ c) * 16777216 ^^^ (s % 16777216) := by
  have h2 : ((s / 16777216) ^^^ c) * 16777216 = (s / 16777216 * 16777216) ^^^ (c * 16777216) := by
   rw [show (16777216 : Nat) = 2 ^ 24 from rfl, <- Nat.shiftLeft_eq, <- Nat.shiftLeft_eq, <- Nat.shiftLeft_eq, Nat.shiftLeft_xor_distrib]
  rw [h2]
  conv => lhs; rw [dL1 s]
  rw [Nat.xor_assoc, Nat.xor_assoc, Nat.xor_comm (s % 16777216)]
 unfold byte tab;rw [h1, dI4, dI3 8 (s % 16777216) (by omega), Nat.xor_comm]
 congr 1
 omega
theorem byte_lt {s c : Nat} (h : s < 4294967296) (hc : c < 256) : byte s c < 4294967296 :=
 csn_lt (Nat.xor_lt_two_pow (n := 32) h (by omega))
theorem reg_lt (l : List UInt8) : ∀ {s : Nat}, s < 4294967296 -> reg s l < 4294967296 := by
 induction l with
 | nil => intro s h; exact h
 | cons c r ih => intro s h; exact ih (byte_lt h c.toNat_lt)
theorem reg_snoc (s : Nat) (l : List UInt8) (c : UInt8) : reg s (l ++ [c]) = byte (reg s l) c.toNat := by simp [reg]
theorem reg_append (s : Nat) (a b : List UInt8) : reg s (a ++ b) = reg (reg s a) b := by simp [reg]
theorem sum_lt (l : List UInt8) : sum l < 4294967296 := by unfold sum; omega
theorem tab_lt {i : Nat} (h : i < 256) : tab i < 4294967296 := csn_lt (by omega)
def four (n : Nat) : List UInt8 := [UInt8.ofNat (n / 16777216), UInt8.ofNat (n / 65536), UInt8.ofNat (n / 256), UInt8.ofNat n]
theorem four_length (n : Nat) : (four n).length = 4 := rfl
theorem turn_bits (s : Nat) (h : s < 4294967296) : bits .xor .u32 ((s : Int) * 2 % 4294967296) (bits .and .u32 79764919 (-((s : Int) / 2147483648) % 4294967296)) = (cs s : Int) := by
 have e1 : (s : Int) * 2 % 4294967296 = ((s * 2 % 4294967296 : Nat) : Int) := by omega
 rw [e1];unfold cs;rw [top h];by_cases h2 : 2147483648 <= s
 ·have e2 : -((s : Int) / 2147483648) % 4294967296 = ((4294967295 : Nat) : Int) := by
   rw [show (s : Int) / 2147483648 = 1 by omega]
   rfl
  rw [e2, show (79764919 : Int) = ((79764919 : Nat) : Int) from rfl, u32_and_nat _ _ (by omega) (by omega), show (79764919 &&& 4294967295 : Nat) = 79764919 from rfl, u32_xor_nat _ _ (Nat.mod_lt _ (by omega)) (by omega)];simp [h2]
 have e2 : -((s : Int) / 2147483648) % 4294967296 = ((0 : Nat) : Int) := by
  rw [show (s : Int) / 2147483648 = 0 by omega]
  rfl
 rw [e2, show (79764919 : Int) = ((79764919 : Nat) : Int) from rfl, u32_and_nat _ _ (by omega) (by omega), show (79764919 &&& 0 : Nat) = 0 from rfl, u32_xor_nat _ _ (Nat.mod_lt _ (by omega)) (by omega)];simp [h2]
end Crc
end
section
open Go.RowKit Oct
def bO0 (cs : Array Value) (k : Nat) : Prop := cs.size = 256 ∧ ∀ j, j < k -> cs[j]? = some (.int .u32 (Crc.tab j : Nat))
theorem bO0.start : bO0 Tryz.zeroCells222 0 := ⟨Tryz.zeroCells222_size, fun j h => absurd h (by omega)⟩
theorem bO0.set {cs : Array Value} {k : Nat} (h : bO0 cs k) (hk : k < 256) : bO0 (cs.setIfInBounds k (.int .u32 (Crc.tab k : Nat))) (k + 1) := by
 refine ⟨by rw [Array.size_setIfInBounds]; exact h.1, fun j hj => ?_⟩;by_cases hjk : j = k
 ·subst hjk
  rw [Array.getElem?_setIfInBounds_self_of_lt (by rw [h.1]; exact hk)]
 rw [Array.getElem?_setIfInBounds_ne (by omega)];exact h.2 j (by omega)
theorem bO0.one {cs : Array Value} (h : bO0 cs 256) : cs.all (·.oneCell') = true := by
 rw [Array.all_eq_true];intro i hi;have h2 := h.2 i (by rw [h.1] at hi; exact hi);rw [Array.getElem?_eq_getElem hi] at h2;rw [Option.some.inj h2]
 rfl
theorem bI1 : (Tryz.prog.info? 222).map (·.size) = some 256 := by kernel_rfl
section
variable {w : World} {g : Nat} {cs cs' : Array Value}
theorem cG1 (hb : Blk w g 222 cs) : w.setRow g cs = w := by
 unfold World.setRow
 congr 1
 apply Array.ext_getElem?
 intro i;rw [Array.getElem?_modify];split
 ·rename_i h
  subst h;rw [show w.heap[g]? = _ from hb]
  rfl
 rfl
end
theorem dF3 (w : World) : Calls Tryz.prog 188 #[] w fun e w' => ∃ cs, e = .returned (.agg cs) ∧ bO0 cs 256 ∧ Below w.heap.size w w' := by
 go_enter Tryz.func188, Tryz.ntmps188
 go_wp2_with fail
 go_loopw [3, 1, 2] (fun i y1 y2 wr => ∃ k : Nat, k <= 256 ∧ i = .int .i64 k ∧ ∃ cs, Blk wr w.heap.size 222 cs ∧ Hid (bO0 cs k) ∧ Below w.heap.size w wr) (fun i _ _ _ => 256 - (intOf i).toNat)
 case atStart => exact ⟨0, by omega, rfl, _, Blk.new _ _ _, qZ bO0.start, (lS _ _).alloc (lR _) _⟩
 obtain ⟨k, hk, rfl, cs, a7, a8, hb⟩ := hrel;by_cases hlt : k < 256
 rotate_left
 ·obtain rfl : k = 256 := by omega
  go_upto_region 11 with fail
  refine wp_region_lit ?_;refine wpList_load_row rfl 222 (.tmp 0) rfl w.heap.size rfl 222 cs (0, 0) _ a7 Tryz.underlying222 rfl (by rw [a8.out.1]; exact bI1) ?_;refine wpList_store_row rfl 222 (.tmp 0) (.tmp 23) rfl w.heap.size cs rfl rfl 222 cs a7 (by rw [a8.out.1]; exact bI1) rfl a8.out.one ?_;rw [cG1 a7];go_wp2;refine bodyPost_ret (v := .agg cs) (results_cell_row Tryz.results188 _ wr w.heap.size 222 cs (0, 0) _ rfl a7 Tryz.underlying222 rfl (by rw [a8.out.1]; exact bI1)) rfl ⟨cs, rfl, a8.out, hb⟩
 go_wp2_with fail
 obtain ⟨wo, d8⟩ : ∃ wo : World, wo = wr := ⟨_, rfl⟩
 rw [<- d8] at a7 hb ⊢;clear d8;go_loop [9, 2] (fun i r => ∃ q : Nat, q <= 8 ∧ i = .int .i64 q ∧ r = .int .u32 (Crc.csn q (k * 16777216) : Nat)) (fun i _ => 8 - (intOf i).toNat)
 case atStart => exact ⟨0, by omega, rfl, by simp [Crc.csn]⟩
 obtain ⟨q, hq, rfl, rfl⟩ := hrel;by_cases hq8 : q < 8
 ·have hs : Crc.csn q (k * 16777216) < 4294967296 := Crc.csn_lt (by omega)
  have ht := Crc.turn_bits _ hs;go_wp2;exact ⟨⟨q + 1, by omega, by go_num, rfl⟩, by simp [intOf]; omega⟩
 obtain rfl : q = 8 := by omega
 have a9 : ∃ u, wo.cell? ⟨w.heap.size, k, none⟩ = some u := by
  rw [a7.cell];exact ⟨_, Array.getElem?_eq_getElem (by rw [a8.out.1]; exact hlt)⟩
 obtain ⟨u, a9⟩ := a9;have f7 := a7.frozen k;have b8 := a8.out.set hlt;have e9 := hb.grown (aA0 wo w.heap.size k (.int .u32 (Crc.tab k : Nat))) hb.size (fun k hk => by injection hk with hk; omega);go_wp2;exact ⟨⟨k + 1, by omega, by go_num, _, a7.set_ k _, qZ b8, e9⟩, by simp [intOf]; omega⟩
end
section
open Go.RowKit Oct
structure Row where
 a : Option Addr
 l : List UInt8
 c : Nat
def Row.val (r : Row) : Value := .slice r.a r.l.length r.c
def RRd (w : World) (B : Nat) (ps : List Row) : Prop := ∀ p ∈ ps, Rd w B p.a (cells p.l) ∧ p.l.length <= 4611686018427387904
def aG6 (ps : List Row) : List UInt8 := ps.flatMap Row.l
theorem bA3 (ps : List Row) (k : Nat) (h : k < ps.length) : aG6 (ps.take (k + 1)) = aG6 (ps.take k) ++ ps[k].l := by
 unfold aG6;rw [List.take_add_one, lW h];simp only [List.flatMap_append, Option.toList_some, List.flatMap_cons, List.flatMap_nil, List.append_nil]
theorem dE3 (s : Nat) (l : List UInt8) (k : Nat) (h : k < l.length) : Crc.reg s (l.take (k + 1)) = Crc.byte (Crc.reg s (l.take k)) l[k].toNat := by
 rw [List.take_add_one, lW h];exact Crc.reg_snoc _ _ _
theorem dL5 {r b : Nat} (hr : r < 4294967296) (hb : b < 256) : (r / 16777216) ^^^ b < 256 := Nat.xor_lt_two_pow (n := 8) (by omega) hb
theorem dO8 (r : Nat) (h : r < 4294967296) : (4294967295 ^^^ r : Nat) = 4294967295 - r := by
 have h2 : ∀ x : BitVec 32, (BitVec.allOnes 32 ^^^ x) = ~~~ x := fun x => BitVec.allOnes_xor
 have h3 := congrArg BitVec.toNat (h2 (BitVec.ofNat 32 r));rw [BitVec.toNat_not, BitVec.toNat_xor, BitVec.toNat_ofNat, Nat.mod_eq_of_lt (by omega)] at h3
 simpa using h3
theorem dL3 (l : List UInt8) : bits .xor .u32 IntKind.u32.max (Crc.reg 4294967295 l : Nat) = (Crc.sum l : Nat) := by
 have h := Crc.reg_lt l (s := 4294967295) (by omega);rw [show IntKind.u32.max = ((4294967295 : Nat) : Int) from rfl, u32_xor_nat _ _ (by omega) h, dO8 _ h]
 rfl
theorem cY6 (A : Option Addr) (ps : List Row) (n c : Nat) (hn : n = ps.length) (w : World) (hr : Rd w w.heap.size A (ps.map Row.val)) (hp : RRd w w.heap.size ps) (hl : ps.length <= 4611686018427387904) :
  Calls Tryz.prog 153 #[.slice A n c] w fun e w' => e = .returned (.int .i64 (Crc.sum (aG6 ps) : Nat)) ∧ Below w.heap.size w w' := by
 subst hn;have HP := qZ hp;clear hp;go_enter Tryz.func153, Tryz.ntmps153
 go_wp2_with fail
 refine (dF3 w).mono ?_;rintro e w1 ⟨cs, rfl, a8, g6⟩;go_wp2_with (refine wpList_store_row rfl 222 (.tmp 3) (.tmp 9) rfl w1.heap.size cs rfl rfl 222 _ (Blk.new w1 _ _) (by rw [a8.1]; exact bI1) (by rw [a8.1]; exact Tryz.zeroCells222_size) a8.one ?_)
 rw [World.setRow_alloc_new];have f8 : Below w.heap.size w (w1.alloc (.cells cs 222)) := g6.alloc g6.size _;have a9 : Blk (w1.alloc (.cells cs 222)) w1.heap.size 222 cs := Blk.new _ _ _;have HT := qZ a8;generalize w1.alloc (.cells cs 222) = w2 at f8 a9 ⊢
 generalize w1.heap.size = g at a9 ⊢
 clear g6 a8;have i6 := hr.below f8;go_loop [12, 4, 6, 8] (fun i r _ _ => ∃ k : Nat, k <= ps.length ∧ i = .int .i64 k ∧ r = .int .u32 (Crc.reg 4294967295 (aG6 (ps.take k)) : Nat)) (fun i _ _ _ => ps.length - (intOf i).toNat)
 case atStart => exact ⟨0, by omega, rfl, rfl⟩
 obtain ⟨k, hk, rfl, rfl⟩ := hrel;by_cases hlt : k < ps.length
 rotate_left
 ·obtain rfl : k = ps.length := by omega
  have b8 := dL3 (aG6 ps);have i4 := Crc.sum_lt (aG6 ps);have hw : wrap64 ((Crc.sum (aG6 ps) : Nat) : Int) = (Crc.sum (aG6 ps) : Nat) := by unfold wrap64; omega
  go_wp2;go_ret
  exact ⟨rfl, f8⟩
 obtain ⟨ad, rfl, l4, a7⟩ := bG6 i6 hlt;have i1 := qZ (HP.out _ (lX hlt));obtain ⟨a, l, c', f7⟩ : ∃ a l c', ps[k] = Row.mk a l c' := ⟨_, _, _, rfl⟩
 have HF := qZ (bA3 ps k hlt);rw [f7] at a7 i1 HF;have g8 : w2.cell? (ad.add k) = some (.slice a l.length c') := a7;have j6 : Rd w2 w.heap.size a (cells l) := i1.out.1.below f8;have l6 : l.length <= 4611686018427387904 := i1.out.2;have l5 : (k : Int) < ps.length := by omega
 clear f7 a7;obtain ⟨R, hR⟩ : ∃ R, R = Crc.reg 4294967295 (aG6 (ps.take k)) := ⟨_, rfl⟩
 have f9 : R < 4294967296 := by rw [hR]; exact Crc.reg_lt _ (by omega)
 rw [<- hR];have HR := qZ hR;clear hR;go_wp2_with fail
 go_loop [18, 4, 8] (fun i r _ => ∃ q : Nat, q <= l.length ∧ i = .int .i64 q ∧ r = .int .u32 (Crc.reg R (l.take q) : Nat)) (fun i _ _ => l.length - (intOf i).toNat)
 case atStart => exact ⟨0, by omega, rfl, rfl⟩
 obtain ⟨q, hq, rfl, rfl⟩ := hrel;by_cases hql : q < l.length
 ·obtain ⟨j9, rfl, i3, g9⟩ := bG6 j6 hql
  have l7 : (q : Int) < l.length := by omega
  have HS := qZ (dE3 R l q hql);have e9 := Crc.reg_lt (l.take q) f9;generalize Crc.reg R (l.take q) = s at HS e9 ⊢
  have g7 := l[q].toNat_lt;have hx : bits .xor .u8 ((s : Int) / 16777216) (l[q].toNat : Int) = (((s / 16777216) ^^^ l[q].toNat : Nat) : Int) := by
   rw [u8_xor _ _ (by omega) (by omega) (by omega) (by omega)]
   congr 1
  have d8 := dL5 e9 g7;have j8 : w2.cell? ⟨g, (s / 16777216) ^^^ l[q].toNat, none⟩ = some (.int .u32 (Crc.tab ((s / 16777216) ^^^ l[q].toNat) : Nat)) := by
   rw [a9.cell];exact HT.out.2 _ d8
  have hy : bits .xor .u32 ((s : Int) * 256 % 4294967296) (Crc.tab ((s / 16777216) ^^^ l[q].toNat) : Nat) = (Crc.byte s l[q].toNat : Nat) := by
   rw [Crc.byte_tab, show (s : Int) * 256 % 4294967296 = ((s * 256 % 4294967296 : Nat) : Int) by omega, u32_xor_nat _ _ (by omega) (Crc.tab_lt d8)]
  generalize (s / 16777216) ^^^ l[q].toNat = X at hx d8 j8 hy
  go_wp2;exact ⟨⟨q + 1, by omega, by go_num, by rw [HS.out]⟩, by simp [intOf]; omega⟩
 obtain rfl : q = l.length := by omega
 have b8 : Crc.reg R (l.take l.length) = Crc.reg 4294967295 (aG6 (ps.take (k + 1))) := by
  rw [List.take_length, HF.out, Crc.reg_append, HR.out]
 have i2 := qZ b8;clear b8;go_wp2;exact ⟨⟨k + 1, by omega, by go_num, by rw [i2.out]⟩, by simp [intOf]; omega⟩
end
section
open Go.RowKit Oct
theorem dK4 (w : World) (base : Nat) (e : TypeId) (xs : List Value) (n : Nat) (hn : n = xs.length) (hb : base <= w.heap.size) (hl : xs.length <= 9223372036854775807) : Own (w.alloc (.cells xs.toArray e)) base e (.slice (some ⟨w.heap.size, 0, none⟩) n n) xs := by
 subst hn;exact ⟨by simp, .inr ⟨w.heap.size, xs.length, xs.toArray, rfl, hb, heap_alloc_new w _, lR _, by unfold maxLen; omega, by simp, by simp⟩⟩
theorem bG8 (x : Nat) (y : Int) (h : y % 256 = ((x % 256 : Nat) : Int)) : Value.int .u8 (y % 256) = .int .u8 (((UInt8.ofNat x).toNat : Nat) : Int) := by
 rw [UInt8.toNat_ofNat', h]
theorem bP7 (n : Nat) (h : n < 4294967296) : cells (Crc.four n) = [.int .u8 ((n : Int) / 16777216), .int .u8 ((n : Int) / 65536 % 256), .int .u8 ((n : Int) / 256 % 256), .int .u8 ((n : Int) % 256)] := by
 simp only [cells, Crc.four, mG, List.map_nil];rw [<- bG8 (n / 16777216) ((n : Int) / 16777216) (by omega), <- bG8 (n / 65536) ((n : Int) / 65536) (by omega), <- bG8 (n / 256) ((n : Int) / 256) (by omega), <- bG8 n (n : Int) (by omega), show (n : Int) / 16777216 % 256 = (n : Int) / 16777216 by omega]
theorem cJ0 (n : Nat) (N : Int) (hN : N = (n : Int)) (h : n < 4294967296) (w : World) :
  Calls Tryz.prog 152 #[.int .i64 N] w fun e w' => ∃ v, e = .returned v ∧ Bs w' w.heap.size v (Crc.four n) ∧ Below w.heap.size w w' := by
 subst hN;go_enter Tryz.func152, Tryz.ntmps152
 go_wp2;go_ret
 refine ⟨_, rfl, ?_, (lS _ _).alloc (lR _) _⟩;have := dK4 w w.heap.size 5 (cells (Crc.four n)) 4 (by rw [aA2]; rfl) (lR _) (by rw [aA2]; simp [Crc.four]);rw [bP7 n h] at this;unfold Bs;rw [bP7 n h];exact this
theorem dL2 (a b : List UInt8) : ((str a).toList == (str b).toList) = decide (a = b) := by
 rw [bR6, bR6];by_cases hab : a = b
 ·simp [hab]
 rw [decide_eq_false hab];exact beq_eq_false_iff_ne.2 hab
theorem cS8 (A B : Option Addr) (l m : List UInt8) (n1 n2 c d K : Nat) (a7 : n1 = l.length) (a8 : n2 = m.length) (w : World) (ha : Rd w K A (cells l)) (hb : Rd w K B (cells m)) :
  Calls Tryz.prog 151 #[.slice A n1 c, .slice B n2 d] w fun e w' => e = .returned (.bool (decide (l = m))) ∧ w = w' := by
 subst a7; subst a8;have k1 := bN0 c ha;have k2 := bN0 d hb;have k3 := dL2 l m;clear ha hb;go_enter Tryz.func151, Tryz.ntmps151
 go_wp2;go_ret
 exact ⟨rfl, rfl⟩
theorem aU7 (A : Option Addr) (l : List UInt8) (n c : Nat) (hn : n = l.length) (w : World) (hr : Rd w w.heap.size A (cells l)) (hl : l.length <= 140737488351232) :
  Calls Tryz.prog 73 #[.slice A n c] w fun e w' => ∃ v, e = .returned v ∧ Bs w' w.heap.size v l ∧ Below w.heap.size w w' := by
 subst hn;cases A with
 | none =>
  have h0 : l = [] := by
   refine Classical.byContradiction fun h => ?_
   obtain ⟨ad, h1, _⟩ := hr (by rw [aA2]; exact List.length_pos_iff.2 h);cases h1
  subst h0;clear hr;have he : ∀ W : World, (binOp .eql 34 (.slice none 0 c) (.slice none 0 0)).run Tryz.prog W = .ok (.bool true) W := fun _ => rfl
  go_enter Tryz.func73, Tryz.ntmps73
  go_wp2;go_ret
  exact ⟨_, rfl, Own.nil _ _ _, lS _ _⟩
 | some ad =>
  have he : ∀ W : World, (binOp .eql 34 (.slice (some ad) l.length c) (.slice none 0 0)).run Tryz.prog W = .ok (.bool false) W := fun _ => rfl
  go_enter Tryz.func73, Tryz.ntmps73
  go_wp2_with (at_builtin; refine cH0 rfl (.tmp 5) (.tmp 6) 34 rfl 5 (.int .u8 0) 1 Tryz.underlying34 aG0 rfl rfl (some ad) l.length c _ rfl (aA2 _).symm hr (bI7 _) (by omega) (by omega) ?_; intro v1 w1 a7 hb)
  go_ret
  exact ⟨_, rfl, a7, hb⟩
end
section
open Go.ChangeShapes Go.WideShapes Go.ChangeAt Go.RowKit Oct
theorem dN3 (z : List Int) (a7 : ∀ n ∈ z, (Lit.int .u8 n).wf = true) : z.map (Value.int .u8) = cells (z.map fun n => UInt8.ofNat n.toNat) := by
 simp only [cells, List.map_map];refine List.map_congr_left fun n hn => ?_
 have h1 := a7 n hn;simp [Lit.wf, IntKind.min, IntKind.max, IntKind.signed, IntKind.bits] at h1
 simp
 omega
section
variable {H : Type} {enc : TypeId × Value -> H} {P : Program} {W : World} {base : Nat}
theorem aW5 {e : TypeId} {n : Nat} {l : List (DataW H)} {d : DataW H} (hd : d ∈ l) (hn : n ∈ d.weights P e) : n ∈ DataW.weightsAll P e l := by
 induction l with
 | nil => cases hd
 | cons x r ih =>
  unfold DataW.weightsAll;rcases List.mem_cons.1 hd with rfl | hd
  ·exact List.mem_append_left _ hn
  exact List.mem_append_right _ (ih hd)
end
end
section
open Go.ChangeShapes Go.WideShapes Go.ChangeAt Go.RowKit Go.Joins Go.Deep Oct
section
variable {H : Type} {enc : TypeId × Value -> H} {P : Program} {W : World} {base : Nat}
theorem aW9 {t : TypeId} (ht : P.underlying t = some (.int .i64)) {v : Value} {fuel : Nat} {y : DataW H × List MemPlace} (hf : DataW.trod enc P W 0 (fun _ => true) true fuel t [v] = some y) :
  ∃ a : Int, v = .int .i64 a ∧ -9223372036854775808 <= a ∧ a <= 9223372036854775807 := by
 obtain ⟨a, h1, _, h2⟩ := DataW.trod_int ht hf;simp at h1
 exact ⟨a, h1, bd_i64 h2⟩
end
end
section
open Go.ChangeShapes Go.WideShapes Go.ChangeAt Go.RowKit Go.Joins Go.Deep Oct
theorem cE9 {α : Type} {G : Nat -> α -> Prop} : ∀ n, (∀ k, k < n -> ∃ p, G k p) -> ∃ ps : List α, ps.length = n ∧ ∀ k (hk : k < ps.length), G k ps[k]
 | 0, _ => ⟨[], rfl, fun k hk => absurd hk (by simp)⟩
 | n + 1, h => by
  obtain ⟨ps, h1, h2⟩ := cE9 n (fun k hk => h k (by omega));obtain ⟨p, hp⟩ := h n (by omega);refine ⟨ps ++ [p], by simp [h1], fun k hk => ?_⟩;by_cases hlt : k < ps.length
  ·rw [List.getElem_append_left hlt]; exact h2 k hlt
  have : k = n := by simp at hk; omega
  subst this;rw [List.getElem_append_right (by omega)]
  simpa [h1] using hp
end
end Go.Proofs.YtgeofijddhflaaaGreatDoor
