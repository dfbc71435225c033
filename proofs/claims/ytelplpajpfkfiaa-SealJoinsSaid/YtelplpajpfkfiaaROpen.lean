/- The reference of layer 2: Open. Condition: the bytes can be read, at most 2^46. -/
import Derived.Test.YtelplpajpfkfiaaRClose
import Derived.Deep.DeepCutAuto
import Derived.BigQuiet
set_option linter.unusedVariables false
namespace Go.Proofs.Ytelplpajpfkfiaa
open Go.RowKit Oct

/-- 's[:hi]'. -/
theorem run_cut_to {P : Program} {T e : TypeId} {z : Value} {bytes : Nat} (ht : P.underlying T = some (.slice e)) (hinfo : (P.info? e).map (fun i => (i.zero, i.size, i.bytes)) = some (some z, 1, bytes)) (A : Option Addr) (len cap hi : Nat) (h1 : hi ≤ cap) (X : Int) (hX : X = (hi : Int)) (w : World) :
    (Instr.slice T (.slice A len cap) none (some (.int .i64 X)) none).run P w = .ok (.slice A hi cap) w := by
  obtain ⟨i, hi', hz, hsize, hby⟩ := info_parts hinfo
  subst hX
  rw [run_slice_h w T A len cap (by rw [ht]; simp [Program.elem, ht]) .i64 hi (by omega) (by omega)]
  have he : P.elem T = e := by simp [Program.elem, ht]
  rw [he, sizeOf_one hi' hsize]
  have hm : A.map (·.add 0) = A := by cases A <;> simp [Addr.add]
  simp [sliced, Result.andThen, hm]

/-- The four bytes of a sum, read as a number. -/
theorem four_read {l : List UInt8} {E : Nat} (h : E + 4 ≤ l.length) (S : Nat) (hS : S < 4294967296) :
    (Crc.four S = (l.drop E).take 4) ↔ ((l[E]'(by omega)).toNat * 16777216 + (l[E + 1]'(by omega)).toNat * 65536 + (l[E + 2]'(by omega)).toNat * 256 + (l[E + 3]'(by omega)).toNat = S) := by
  have e : (l.drop E).take 4 = [l[E]'(by omega), l[E + 1]'(by omega), l[E + 2]'(by omega), l[E + 3]'(by omega)] := by
    rw [List.drop_eq_getElem_cons (by omega), List.drop_eq_getElem_cons (by omega), List.drop_eq_getElem_cons (by omega), List.drop_eq_getElem_cons (by omega)]
    rfl
  rw [e]
  generalize l[E]'(by omega) = a
  generalize l[E + 1]'(by omega) = b
  generalize l[E + 2]'(by omega) = c
  generalize l[E + 3]'(by omega) = d
  have ha := a.toNat_lt
  have hb := b.toNat_lt
  have hc := c.toNat_lt
  have hd := d.toNat_lt
  simp only [Crc.four, List.cons.injEq, ← UInt8.toNat_inj, UInt8.toNat_ofNat']
  constructor
  · intro h
    omega
  · intro h
    subst h
    refine ⟨?_, ?_, ?_, ?_, trivial⟩ <;> omega

set_option maxHeartbeats 2000000 in
set_option maxRecDepth 100000 in
theorem ropen_any (A : Option Addr) (l : List UInt8) (n c : Nat) (hn : n = l.length) (w : World) (hr : Rd w w.heap.size A (cells l)) (hlc : l.length ≤ c) (hl : l.length ≤ 140737488351232 ∧ c ≤ 9223372036854775807) :
    Calls Try.prog 45 #[.slice A n c] w fun e w' => ∃ v, e = .returned (.tuple #[v, .int .i64 (openS l).2.1, .int .i64 (openS l).2.2]) ∧ Bs w' w.heap.size v (openS l).1 ∧ Below w.heap.size w w' := by
  subst hn
  have hle : (takeU maxI l).1 ≤ 9223372036854775807 := takeU_le maxI l
  have hu := takeU_used maxI l
  by_cases h1 : (takeU maxI l).2.2 ≠ 0
  · have HO : Hid (openS l = ([], 0, (takeU maxI l).2.2)) := Lib.hid (if_pos h1)
    have hd : ((takeU maxI l).2.2 != 0) = true := by simpa using h1
    have hd2 : ((takeU maxI l).2.2 == 0) = false := by simpa using h1
    rw [HO.out]
    clear h1
    go_enter Try.func45, Try.ntmps45
    go_wp2_with fail
    refine (rtakeUint_any A l _ c _ rfl w hr (by omega)).mono ?_
    rintro e w1 ⟨rfl, rfl⟩
    go_wp2
    go_ret3
    exact ⟨_, rfl, Own.nil _ _ _, Below.refl _ _⟩
  · have h1' : (takeU maxI l).2.2 = 0 := Classical.not_not.1 h1
    by_cases h2 : 1048576 < (takeU maxI l).1
    · have HO : Hid (openS l = ([], 0, 2)) := Lib.hid (by unfold openS; rw [if_neg h1, if_pos h2])
      rw [HO.out]
      have HE := Lib.hid h1'
      clear h1 h1'
      go_enter Try.func45, Try.ntmps45
      go_wp2_with fail
      refine (rtakeUint_any A l _ c _ rfl w hr (by omega)).mono ?_
      rintro e w1 ⟨rfl, rfl⟩
      rw [HE.out]
      go_wp2
      go_ret3
      exact ⟨_, rfl, Own.nil _ _ _, Below.refl _ _⟩
    · by_cases h3 : l.length < endS l + 4
      · have HO : Hid (openS l = ([], 0, 3)) := Lib.hid (by unfold openS; rw [if_neg h1, if_neg h2, if_pos h3])
        rw [HO.out]
        have HE := Lib.hid h1'
        unfold endS at h3
        clear h1 h1'
        go_enter Try.func45, Try.ntmps45
        go_wp2_with fail
        refine (rtakeUint_any A l _ c _ rfl w hr (by omega)).mono ?_
        rintro e w1 ⟨rfl, rfl⟩
        rw [HE.out]
        go_wp2
        go_ret3
        exact ⟨_, rfl, Own.nil _ _ _, Below.refl _ _⟩
      · have HE := Lib.hid h1'
        have hend : endS l + 4 ≤ l.length := by omega
        obtain ⟨E, hE⟩ : ∃ E, E = endS l := ⟨_, rfl⟩
        have hE' : E = (takeU maxI l).2.1 + (takeU maxI l).1 := hE
        have HEE := Lib.hid hE
        rw [← hE] at hend
        obtain ⟨a0, A0, b0, c0⟩ := rd_at hr (k := E) (by omega)
        obtain ⟨a1, A1, b1, c1⟩ := rd_at hr (k := E + 1) (by omega)
        obtain ⟨a2, A2, b2, c2⟩ := rd_at hr (k := E + 2) (by omega)
        obtain ⟨a3, A3, b3, c3⟩ := rd_at hr (k := E + 3) (by omega)
        subst A0
        injection A1 with A1; subst A1
        injection A2 with A2; subst A2
        injection A3 with A3; subst A3
        have hS := Crc.sum_lt (l.take E)
        have HR := Lib.hid (four_read hend _ hS)
        have x0 := (l[E]'(by omega)).toNat_lt
        have x1 := (l[E + 1]'(by omega)).toNat_lt
        have x2 := (l[E + 2]'(by omega)).toNat_lt
        have x3 := (l[E + 3]'(by omega)).toNat_lt
        have HOk : Hid ((l[E]'(by omega)).toNat * 16777216 + (l[E + 1]'(by omega)).toNat * 65536 + (l[E + 2]'(by omega)).toNat * 256 + (l[E + 3]'(by omega)).toNat = Crc.sum (l.take E) → openS l = ((l.drop (takeU maxI l).2.1).take (takeU maxI l).1, E + 4, 0)) := Lib.hid fun h => by
          unfold openS
          rw [if_neg h1, if_neg h2, if_neg h3, ← hE, if_pos (HR.out.2 h)]
        have HBad : Hid (¬ (l[E]'(by omega)).toNat * 16777216 + (l[E + 1]'(by omega)).toNat * 65536 + (l[E + 2]'(by omega)).toNat * 256 + (l[E + 3]'(by omega)).toNat = Crc.sum (l.take E) → openS l = ([], 0, 5)) := Lib.hid fun h => by
          unfold openS
          rw [if_neg h1, if_neg h2, if_neg h3, ← hE, if_neg fun h' => h (HR.out.1 h')]
        generalize (l[E]'(by omega)).toNat = y0 at c0 HR x0 HOk HBad
        generalize (l[E + 1]'(by omega)).toNat = y1 at c1 HR x1 HOk HBad
        generalize (l[E + 2]'(by omega)).toNat = y2 at c2 HR x2 HOk HBad
        generalize (l[E + 3]'(by omega)).toNat = y3 at c3 HR x3 HOk HBad
        have hcut := fun W : World => run_cut_to (P := Try.prog) Try.underlying22 info_u8 (some a0) l.length c E (by omega) (E : Int) rfl W
        have hrE : Rd w w.heap.size (some a0) (cells (l.take E)) := by simpa [cells, List.map_take] using hr.take E
        have htk : (l.take E).length = E := by rw [List.length_take]; omega
        have hadd : (((takeU maxI l).2.1 : Nat) : Int) + ((takeU maxI l).1 : Nat) = (E : Int) := by omega
        have HTK := Lib.hid htk
        have HE' := Lib.hid hE'
        clear h1 h1' hE hE' h3 htk
        go_enter Try.func45, Try.ntmps45
        go_wp2_with fail
        refine (rtakeUint_any (some a0) l _ c _ rfl w hr (by omega)).mono ?_
        rintro e w1 ⟨rfl, rfl⟩
        rw [HE.out]
        go_wp2_with fail
        have i0 : (E : Int) < l.length := by omega
        have j0 : (0 : Int) ≤ E := by omega
        obtain ⟨E1, hE1⟩ : ∃ E1, E1 = E + 1 := ⟨_, rfl⟩
        obtain ⟨E2, hE2⟩ : ∃ E2, E2 = E + 2 := ⟨_, rfl⟩
        obtain ⟨E3, hE3⟩ : ∃ E3, E3 = E + 3 := ⟨_, rfl⟩
        have i1 : (E1 : Int) < l.length := by omega
        have j1 : (0 : Int) ≤ E1 := by omega
        have i2 : (E2 : Int) < l.length := by omega
        have j2 : (0 : Int) ≤ E2 := by omega
        have i3 : (E3 : Int) < l.length := by omega
        have j3 : (0 : Int) ≤ E3 := by omega
        rw [← hE1] at c1
        rw [← hE2] at c2
        rw [← hE3] at c3
        have H1 : Hid ((E1 : Int) = (E : Int) + 1) := Lib.hid (by omega)
        have H2 : Hid ((E2 : Int) = (E : Int) + 2) := Lib.hid (by omega)
        have H3 : Hid ((E3 : Int) = (E : Int) + 3) := Lib.hid (by omega)
        clear hE1 hE2 hE3
        have z1 : IntKind.i64.wrap ((E : Int) + 1) = (E1 : Int) := by rw [H1.out]; exact IntWalk.i64_in _ (by omega)
        have z2 : IntKind.i64.wrap ((E : Int) + 2) = (E2 : Int) := by rw [H2.out]; exact IntWalk.i64_in _ (by omega)
        have z3 : IntKind.i64.wrap ((E : Int) + 3) = (E3 : Int) := by rw [H3.out]; exact IntWalk.i64_in _ (by omega)
        have HV : Hid (wrap64 (wrap64 (wrap64 (wrap64 (wrap64 (y0 : Int) * 16777216) + wrap64 (wrap64 (y1 : Int) * 65536)) + wrap64 (wrap64 (y2 : Int) * 256)) + wrap64 (y3 : Int)) = ((y0 * 16777216 + y1 * 65536 + y2 * 256 + y3 : Nat) : Int)) := Lib.hid (by
          rw [IntWalk.wrap64_in (y0 : Int) (by omega), IntWalk.wrap64_in (y1 : Int) (by omega), IntWalk.wrap64_in (y2 : Int) (by omega), IntWalk.wrap64_in (y3 : Int) (by omega), IntWalk.wrap64_in ((y0 : Int) * 16777216) (by omega), IntWalk.wrap64_in ((y1 : Int) * 65536) (by omega), IntWalk.wrap64_in ((y2 : Int) * 256) (by omega), IntWalk.wrap64_in ((y0 : Int) * 16777216 + (y1 : Int) * 65536) (by omega), IntWalk.wrap64_in ((y0 : Int) * 16777216 + (y1 : Int) * 65536 + (y2 : Int) * 256) (by omega), IntWalk.wrap64_in ((y0 : Int) * 16777216 + (y1 : Int) * 65536 + (y2 : Int) * 256 + (y3 : Int)) (by omega)]
          omega)
        clear x0 x1 x2 x3 b0 b1 b2 b3 hS hle hu h2
        generalize (takeU maxI l).1 = N at hadd HOk HE' ⊢
        generalize (takeU maxI l).2.1 = U at hadd HOk HE' ⊢
        have HAD := Lib.hid hadd
        have HEND := Lib.hid hend
        have HLC := Lib.hid hlc
        clear hadd hend hlc
        go_quiet (fail)
        go_wp2_with fail
        refine (rsum_any (some a0) (l.take E) _ c w.heap.size HTK.out.symm _ (hrE.drewN _) (by rw [HTK.out]; omega)).mono ?_
        rintro e w2 ⟨rfl, rfl⟩
        clear c0 c1 c2 c3 z1 z2 z3 i1 i2 i3 j1 j2 j3 H1 H2 H3
        rw [HV.out]
        generalize y0 * 16777216 + y1 * 65536 + y2 * 256 + y3 = Y at HOk HBad ⊢
        generalize Crc.sum (l.take E) = Z at HOk HBad ⊢
        by_cases h4 : Y = Z
        · have h5 := HOk.out h4
          have h6 : ((Z : Int) != (Y : Int)) = false := by simp; omega
          have HH5 := Lib.hid h5
          have hcut2 := fun W : World => run_cut (P := Try.prog) Try.underlying22 info_u8 (some a0) l.length c U E (by have := HE'.out; omega) (by have := HEND.out; have := HLC.out; omega) (U : Int) (E : Int) rfl rfl W
          have hcl : ((l.drop U).take N).length = E - U := by simp; have := HE'.out; have := HEND.out; omega
          have hrU : Rd w w.heap.size (cutA (some a0) U c) (cells ((l.drop U).take N)) := by
            have := (Rd.cutA hr (k := U) (cap := c) (by rw [cells_length]; have := HE'.out; have := HEND.out; omega) (by rw [cells_length]; exact HLC.out)).take N
            simpa [cells, List.map_take, List.map_drop] using this
          generalize (l.drop U).take N = M at hcl hrU HH5 ⊢
          have hMl : M.length ≤ 140737488351232 := by have := HEND.out; omega
          have HCL := Lib.hid hcl
          have hx4 := HEND.out
          clear h4 h5 HR HOk HBad hcl
          generalize hwd : w.drewN nq = wd
          have hrd : Rd wd wd.heap.size (cutA (some a0) U c) (cells M) := by rw [← hwd]; exact hrU.drewN nq
          have hbd : Below w.heap.size w wd := by rw [← hwd]; exact below_drewN (Below.refl _ _) _
          have hsd : w.heap.size = wd.heap.size := by rw [← hwd]; rfl
          have HSD := Lib.hid hsd
          clear hwd hrE hr hrU hsd
          go_wp2_with (at_builtin; go_loud (refine wpList_app0 (W := wd) rfl (.tmp 64) (.tmp 68) 22 rfl 5 (.int .u8 0) 1 Try.underlying22 info_u8 rfl rfl (cutA (some a0) U c) (E - U) (c - U) _ rfl (by rw [cells_length]; exact HCL.out.symm) hrd (bytes_one _) (by omega) (by omega) ?_); intro v1 w1 hov hb)
          go_ret3
          rw [HH5.out]
          refine ⟨_, rfl, ?_, ?_⟩
          · rw [HSD.out]; exact hov
          · rw [HSD.out] at hbd ⊢; exact hbd.trans hb
        · have h5 : openS l = ([], 0, 5) := HBad.out h4
          have h6 : ((Z : Int) != (Y : Int)) = true := by simp; omega
          have HH5 := Lib.hid h5
          clear h5 HR HOk HBad
          go_wp2
          go_ret3
          rw [HH5.out]
          exact ⟨_, rfl, Own.nil _ _ _, below_drewN (Below.refl _ _) _⟩
end Go.Proofs.Ytelplpajpfkfiaa
