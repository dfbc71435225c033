/- seal.Sum: the check sum of any parts. Condition: each can be read, at most 2^62 bytes each. -/
import Derived.Test.YtelplpajpfkfiaaSteps
import Derived.Deep.WholeRow
set_option linter.unusedVariables false
namespace Go.Proofs.Ytelplpajpfkfiaa
open Go.RowKit Oct

/-- A row of bytes: where it lies, what it reads as, its capacity. -/
structure Row where
  a : Option Addr
  l : List UInt8
  c : Nat
def Row.val (r : Row) : Value := .slice r.a r.l.length r.c
def RRd (w : World) (B : Nat) (ps : List Row) : Prop := ∀ p ∈ ps, Rd w B p.a (cells p.l) ∧ p.l.length ≤ 4611686018427387904
/-- All bytes of these rows. -/
def flat (ps : List Row) : List UInt8 := ps.flatMap Row.l

theorem flat_take (ps : List Row) (k : Nat) (h : k < ps.length) : flat (ps.take (k + 1)) = flat (ps.take k) ++ ps[k].l := by
  unfold flat
  rw [List.take_add_one, List.getElem?_eq_getElem h]
  simp only [List.flatMap_append, Option.toList_some, List.flatMap_cons, List.flatMap_nil, List.append_nil]
theorem reg_take (s : Nat) (l : List UInt8) (k : Nat) (h : k < l.length) : Crc.reg s (l.take (k + 1)) = Crc.byte (Crc.reg s (l.take k)) l[k].toNat := by
  rw [List.take_add_one, List.getElem?_eq_getElem h]
  exact Crc.reg_snoc _ _ _
theorem top_xor {r b : Nat} (hr : r < 4294967296) (hb : b < 256) : (r / 16777216) ^^^ b < 256 := Nat.xor_lt_two_pow (n := 8) (by omega) hb

theorem not32 (r : Nat) (h : r < 4294967296) : (4294967295 ^^^ r : Nat) = 4294967295 - r := by
  have h2 : ∀ x : BitVec 32, (BitVec.allOnes 32 ^^^ x) = ~~~ x := fun x => BitVec.allOnes_xor
  have h3 := congrArg BitVec.toNat (h2 (BitVec.ofNat 32 r))
  rw [BitVec.toNat_not, BitVec.toNat_xor, BitVec.toNat_ofNat, Nat.mod_eq_of_lt (by omega)] at h3
  simpa using h3
theorem sum_not (l : List UInt8) : bits .xor .u32 IntKind.u32.max (Crc.reg 4294967295 l : Nat) = (Crc.sum l : Nat) := by
  have h := Crc.reg_lt l (s := 4294967295) (by omega)
  rw [show IntKind.u32.max = ((4294967295 : Nat) : Int) from rfl, u32_xor_nat _ _ (by omega) h, not32 _ h]
  rfl

set_option maxHeartbeats 1000000 in
set_option maxRecDepth 100000 in
theorem sum_any (A : Option Addr) (ps : List Row) (n c : Nat) (hn : n = ps.length) (w : World) (hr : Rd w w.heap.size A (ps.map Row.val)) (hp : RRd w w.heap.size ps) (hl : ps.length ≤ 4611686018427387904) :
    Calls Try.prog 21 #[.slice A n c] w fun e w' => e = .returned (.int .i64 (Crc.sum (flat ps) : Nat)) ∧ Below w.heap.size w w' := by
  subst hn
  have HP := Lib.hid hp
  clear hp
  go_enter Try.func21, Try.ntmps21
  go_wp2_with fail
  refine (steps_at w).mono ?_
  rintro e w1 ⟨cs, rfl, htab, hb1⟩
  go_wp2_with (refine wpList_store_row rfl 87 (.tmp 3) (.tmp 9) rfl w1.heap.size cs rfl rfl 87 _ (Blk.new w1 _ _) (by rw [htab.1]; exact tab_info) (by rw [htab.1]; exact Try.zeroCells87_size) htab.one ?_)
  rw [World.setRow_alloc_new]
  have hb2 : Below w.heap.size w (w1.alloc (.cells cs 87)) := hb1.alloc hb1.size _
  have hblk : Blk (w1.alloc (.cells cs 87)) w1.heap.size 87 cs := Blk.new _ _ _
  have HT := Lib.hid htab
  generalize w1.alloc (.cells cs 87) = w2 at hb2 hblk ⊢
  generalize w1.heap.size = g at hblk ⊢
  clear hb1 htab
  have hr2 := hr.below hb2
  go_loop [12, 4, 6, 8] (fun i r _ _ => ∃ k : Nat, k ≤ ps.length ∧ i = .int .i64 k ∧ r = .int .u32 (Crc.reg 4294967295 (flat (ps.take k)) : Nat)) (fun i _ _ _ => ps.length - (intOf i).toNat)
  case atStart => exact ⟨0, by omega, rfl, rfl⟩
  case round =>
    obtain ⟨k, hk, rfl, rfl⟩ := hrel
    by_cases hlt : k < ps.length
    · obtain ⟨ad, rfl, hbk, hcell⟩ := rd_at hr2 hlt
      have hps := Lib.hid (HP.out _ (List.getElem_mem hlt))
      obtain ⟨a, l, c', hrow⟩ : ∃ a l c', ps[k] = Row.mk a l c' := ⟨_, _, _, rfl⟩
      have HF := Lib.hid (flat_take ps k hlt)
      rw [hrow] at hcell hps HF
      have hcell' : w2.cell? (ad.add k) = some (.slice a l.length c') := hcell
      have hrl : Rd w2 w.heap.size a (cells l) := hps.out.1.below hb2
      have hll : l.length ≤ 4611686018427387904 := hps.out.2
      have hkI : (k : Int) < ps.length := by omega
      clear hrow hcell
      obtain ⟨R, hR⟩ : ∃ R, R = Crc.reg 4294967295 (flat (ps.take k)) := ⟨_, rfl⟩
      have hRlt : R < 4294967296 := by rw [hR]; exact Crc.reg_lt _ (by omega)
      rw [← hR]
      have HR := Lib.hid hR
      clear hR
      go_wp2_with fail
      go_loop [18, 4, 8] (fun i r _ => ∃ q : Nat, q ≤ l.length ∧ i = .int .i64 q ∧ r = .int .u32 (Crc.reg R (l.take q) : Nat)) (fun i _ _ => l.length - (intOf i).toNat)
      case atStart => exact ⟨0, by omega, rfl, rfl⟩
      case round =>
        obtain ⟨q, hq, rfl, rfl⟩ := hrel
        by_cases hql : q < l.length
        · obtain ⟨ad2, rfl, hbk2, hcell2⟩ := rd_at hrl hql
          have hqI : (q : Int) < l.length := by omega
          have HS := Lib.hid (reg_take R l q hql)
          have hSlt := Crc.reg_lt (l.take q) hRlt
          generalize Crc.reg R (l.take q) = s at HS hSlt ⊢
          have hblt := l[q].toNat_lt
          have hx : bits .xor .u8 ((s : Int) / 16777216) (l[q].toNat : Int) = (((s / 16777216) ^^^ l[q].toNat : Nat) : Int) := by
            rw [u8_xor _ _ (by omega) (by omega) (by omega) (by omega)]
            congr 1
          have hxlt := top_xor hSlt hblt
          have hxc : w2.cell? ⟨g, (s / 16777216) ^^^ l[q].toNat, none⟩ = some (.int .u32 (Crc.tab ((s / 16777216) ^^^ l[q].toNat) : Nat)) := by
            rw [hblk.cell]
            exact HT.out.2 _ hxlt
          have hy : bits .xor .u32 ((s : Int) * 256 % 4294967296) (Crc.tab ((s / 16777216) ^^^ l[q].toNat) : Nat) = (Crc.byte s l[q].toNat : Nat) := by
            rw [Crc.byte_tab, show (s : Int) * 256 % 4294967296 = ((s * 256 % 4294967296 : Nat) : Int) by omega, u32_xor_nat _ _ (by omega) (Crc.tab_lt hxlt)]
          generalize (s / 16777216) ^^^ l[q].toNat = X at hx hxlt hxc hy
          go_wp2
          exact ⟨⟨q + 1, by omega, by go_num, by rw [HS.out]⟩, by simp [intOf]; omega⟩
        · obtain rfl : q = l.length := by omega
          have hfin : Crc.reg R (l.take l.length) = Crc.reg 4294967295 (flat (ps.take (k + 1))) := by
            rw [List.take_length, HF.out, Crc.reg_append, HR.out]
          have HF2 := Lib.hid hfin
          clear hfin
          go_wp2
          exact ⟨⟨k + 1, by omega, by go_num, by rw [HF2.out]⟩, by simp [intOf]; omega⟩
    · obtain rfl : k = ps.length := by omega
      have hfin := sum_not (flat ps)
      have hlt2 := Crc.sum_lt (flat ps)
      have hw : wrap64 ((Crc.sum (flat ps) : Nat) : Int) = (Crc.sum (flat ps) : Nat) := by unfold wrap64; omega
      go_wp2
      go_ret
      exact ⟨rfl, hb2⟩
end Go.Proofs.Ytelplpajpfkfiaa
