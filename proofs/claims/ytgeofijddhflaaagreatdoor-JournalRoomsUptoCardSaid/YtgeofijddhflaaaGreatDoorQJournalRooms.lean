/- pavanelaw22.JournalRooms answers true. Condition: the acts can be read, and are of bulk at most 1048576; the library's variables stand as laid. -/
import Derived.Test.YtgeofijddhflaaaGreatDoorQJnSmall
import Derived.Test.YtgeofijddhflaaaGreatDoorQOpenJ
set_option linter.unusedVariables false
set_option linter.unusedSimpArgs false
namespace Go.Proofs.YtgeofijddhflaaaGreatDoor
open Go.RowKit Go.Maps Oct
theorem rrow_keep {w W : World} {N : Nat} {v : Value} {rs : List (Nm × RF)} (h : RRow w N v rs) (hg : ∀ q ∈ rs, Got w N q.2.v q.2.f.b) (hs : w.heap.size ≤ W.heap.size) (hk : ∀ x, N ≤ x → x < w.heap.size → W.heap[x]? = w.heap[x]?) : RRow W N v rs ∧ ∀ q ∈ rs, Got W N q.2.v q.2.f.b :=
 ⟨own_keepB (size := 3) h (fun r hr => hk r (h.lt r hr).1 (h.lt r hr).2), fun q hq => (hg q hq).kept (fun x hx => hk x ((hg q hq).row.base x hx) ((hg q hq).row.lt x hx)) hs⟩
theorem rrow_frd2 {w : World} {N c : Nat} {A : Option Addr} {rs : List (Nm × RF)} (h : RRow w N (.slice A rs.length c) rs) (hg : ∀ q ∈ rs, Got w N q.2.v q.2.f.b) : FRd w A rs := by
 obtain ⟨A', c', e, h1⟩ := rrow_frd h hg
 injection e with e1 _ _
 rw [e1]
 exact h1
theorem wt_mem {acs : List LAct} {a : LAct} (h : a ∈ acs) : a.wt ≤ (acs.map LAct.wt).sum := by
 induction acs with
 | nil => cases h
 | cons x r ih =>
  rw [List.map_cons, List.sum_cons]
  rcases List.mem_cons.1 h with rfl | h
  ·omega
  ·have := ih h; omega
theorem sameE_refl : ∀ l : List EntP, sameE l l = true
 | [] => rfl
 | x :: r => by
  unfold sameE
  rw [(eqE_iff x x).2 rfl, sameE_refl r]
  rfl
theorem sopenR (rm : Int) : openJ ⟨⟨false, false, 0, 0⟩, rm, []⟩ = (0, some sj0, ⟨⟨false, false, 0, 0⟩, rm, []⟩) := by kernel_rfl
theorem JAt.txt {w : World} {F : Nat → Prop} {gj g : Nat} {j : JnP} (h : JAt w F gj g j) : ∀ e ∈ j.ents, e.b.length ≤ 65535 := fun e he => by
 obtain ⟨⟨A, c, ads, h1, h2, h3, h4, h5⟩, _⟩ := h
 unfold JnP.ents at he
 obtain ⟨l, hl, hel⟩ := List.mem_flatten.1 he
 obtain ⟨s, hs, rfl⟩ := List.mem_map.1 hl
 obtain ⟨i, hi, rfl⟩ := List.getElem_of_mem hs
 exact (h5 i (by omega) hi).txt e hel
set_option maxHeartbeats 8000000 in
set_option maxRecDepth 100000 in
theorem journalRooms_any (room : Int) (hroom : -9223372036854775808 ≤ room ∧ room ≤ 9223372036854775807) (A : Option Addr) (acs : List LAct) (c : Nat) (w : World) (hin : InLActs w A acs c) (hwt : (acs.map LAct.wt).sum ≤ 1048576) (hF : Facts w) :
  Calls Tryz.prog 5 #[.int .i64 room, .slice A acs.length c] w fun e w' => e = .returned (.bool true) ∧ Below w.heap.size w w' := by
 have HRD := Lib.hid hin.rd
 have HOKA := Lib.hid hin.ok
 have hacl := hin.le
 have HWT := Lib.hid hwt
 have HF := Lib.hid hF
 have HSM := Lib.hid (jsmall_any w hF)
 have HRM := Lib.hid hroom
 clear hin hwt hF hroom
 go_enter Tryz.func5, Tryz.ntmps5
 go_wp2_with fail
 refine HSM.out.mono ?_
 rintro e w0 ⟨rfl, hb0⟩
 have hs0 := hb0.size
 have HB0 := Lib.hid hb0
 clear hb0 HSM
 go_wp2_with fail
 refine (dnew_any room HRM.out w0).mono ?_
 rintro e w1 ⟨rfl, hD, hb1⟩
 obtain ⟨rm, hrm⟩ : ∃ x, x = max room 0 := ⟨_, rfl⟩
 rw [← hrm] at hD
 have hs1 := hb1.size
 have HB1 := Lib.hid hb1
 have HOP := Lib.hid (jopen_any hD (L := 1000) ⟨by simp [sizes, dkOf, sec], by simp [dkOf, sec], fun q hq => by cases hq⟩ (by omega) hs1 (fun w' hb => ⟨(HF.out.below (HB0.out.trans ((HB1.out.trans hb).mono hs0))).tab, (HF.out.below (HB0.out.trans ((HB1.out.trans hb).mono hs0))).err⟩))
 have he : openJ (dkOf ⟨false, false, 0, 0⟩ rm []) = (0, some sj0, ⟨⟨false, false, 0, 0⟩, rm, []⟩) := sopenR rm
 rw [he] at HOP
 clear hb1 hD he hrm
 go_wp2_with fail
 refine HOP.out.mono ?_
 rintro e w2 ⟨es2, hD2, hS2, hfr2, hgr2, hm⟩
 simp only at hm
 obtain ⟨gj, F, rfl, hgj, hJ, hFa⟩ := hm
 have hb2 : Below w0.heap.size w1 w2 := hfr2.below hs1 (fun x hx => by
  rcases hx with h | h | ⟨q, hq, _⟩
  ·omega
  ·omega
  ·cases hq)
 have hs2 := hfr2.size
 have HR0 : Hid (RoomK w w2 w0.heap.size (w0.heap.size + 1) w0.heap.size gj F 0 ⟨⟨false, false, 0, 0⟩, rm, []⟩ sj0 es2) := Lib.hid ⟨⟨hD2, hS2, hJ, fun x hx => ⟨by have := (hFa x hx).1; omega, (hFa x hx).2⟩, by omega⟩, ri0, rb0, hs0, by omega, HB0.out.trans ((HB1.out.trans hb2).mono hs0), HF.out⟩
 obtain ⟨bs, hbs⟩ : ∃ n, n = w0.heap.size := ⟨_, rfl⟩
 rw [← hbs] at HR0 ⊢
 have hbsw : w.heap.size ≤ bs := by omega
 clear hD2 hS2 hfr2 hgr2 hJ hFa hb2 HOP hs0 hs1 hs2 hgj HB0 HB1 hbs
 go_wp2_with fail
 go_loopw [9, 10, 11, 12, 13, 14, 15, 16] (fun n _ _ _ _ _ _ _ wr => ∃ (k : Nat), k ≤ acs.length ∧ n = .int .i64 k ∧ k ≤ 60 ∧ Hid (∃ d j es F, RoomK w wr bs (bs + 1) bs gj F k d j es)) (fun n _ _ _ _ _ _ _ _ => acs.length - (intOf n).toNat)
 case atStart => exact ⟨0, by omega, rfl, by omega, Lib.hid ⟨_, _, _, _, HR0.out⟩⟩
 case round =>
  obtain ⟨k, hk, rfl, hk60, HK⟩ := hrel
  clear HR0
  obtain ⟨d, j, es, F, hR⟩ := HK.out
  have HR := Lib.hid hR
  have hbw := hR.from_
  have HBW := Lib.hid hbw
  clear hR HK
  by_cases hlt : k < acs.length
  ·by_cases h60 : k < 60
   ·have hok := HOKA.out _ (List.getElem_mem hlt)
    have hwa := wt_mem (List.getElem_mem hlt)
    obtain ⟨ab, ao, rfl, _, hab, hce⟩ := HRD.out (by rw [lacs_len]; omega)
    have hq : ∀ j, (hj : j < 7) → wr.cell? ⟨ab, ao + k * 7 + j, none⟩ = (acs[k].cs)[j]? := fun j hj => by
     obtain ⟨u, hu⟩ : ∃ u, (acs[k].cs)[j]? = some u := ⟨_, List.getElem?_eq_getElem (show j < (acs[k].cs).length from hj)⟩
     rw [hu, Nat.add_assoc]
     exact (hbw.cell (p := ⟨ab, _, none⟩) hab).trans (hce _ _ (by rw [lacs_at acs hlt hj]; exact hu))
    obtain ⟨a, hak⟩ : ∃ a, a = acs[k] := ⟨_, rfl⟩
    rw [← hak] at hq hok hwa
    have q0 : wr.cell? ⟨ab, ao + k * 7, none⟩ = some (.int .i64 a.o) := hq 0 (by omega)
    have q1 : wr.cell? ⟨ab, ao + k * 7 + 1, none⟩ = some (.int .i64 a.n) := hq 1 (by omega)
    have q2 : wr.cell? ⟨ab, ao + k * 7 + 2, none⟩ = some (.int .i64 a.m) := hq 2 (by omega)
    have q3 : wr.cell? ⟨ab, ao + k * 7 + 3, none⟩ = some (.slice a.Al a.rs.length a.cl) := hq 3 (by omega)
    have HOKX := Lib.hid hok
    have hwax : a.wt ≤ 1048576 := by have := HWT.out; omega
    have hsr := hbw.size
    have hbsr := HR.out.bw
    have HFI := Lib.hid (room_files HR.out (by omega))
    have HQ := Lib.hid (And.intro q0 (And.intro q1 (And.intro q2 q3)))
    clear hq hok hwa hak hce hbw q0 q1 q2 q3
    go_wp2_with fail
    refine HFI.out.mono ?_
    rintro e w5 ⟨A5, rs5, c5, rfl, hrow5, hgot5, hsec5, hb5⟩
    have hs5 := hb5.size
    have HROW5 := Lib.hid hrow5
    have HGOT5 := Lib.hid hgot5
    have HSEC5 := Lib.hid hsec5
    have HB5 := Lib.hid hb5
    have HR5 := Lib.hid (HR.out.below hb5)
    have HEN := Lib.hid (room_entries HR5.out (by omega))
    clear hrow5 hgot5 hsec5 hb5 HFI
    go_wp2_with fail
    refine HEN.out.mono ?_
    rintro e w6 ⟨A6, rs6, c6, rfl, hrd6, hmap6, hdat6, hb6⟩
    have hs6 := hb6.size
    have HRD6 := Lib.hid hrd6
    have HMAP6 := Lib.hid hmap6
    have HDAT6 := Lib.hid hdat6
    have HB6 := Lib.hid hb6
    have HR6 := Lib.hid (HR5.out.below hb6)
    have HME := Lib.hid HR6.out.jn.jn.meta_
    clear hrd6 hmap6 hdat6 hb6 HEN HR5
    go_wp2_with fail
    refine HME.out.mono ?_
    rintro e w7 ⟨rfl, hb7⟩
    have hs7 := hb7.size
    have HB7 := Lib.hid hb7
    have HB57 := Lib.hid (HB5.out.trans ((HB6.out.trans (hb7.mono hs6)).mono hs5))
    have HR7 := Lib.hid (HR6.out.below hb7)
    have hcell : ∀ j u, wr.cell? ⟨ab, j, none⟩ = some u → ∀ W, Below bs wr W → W.cell? ⟨ab, j, none⟩ = some u := fun j u hu W hW => (hW.cell (p := ⟨ab, j, none⟩) (show ab < bs by omega)).trans hu
    have HCELL := Lib.hid hcell
    clear hb7 HME HR6 hcell
    have q0 : w7.cell? ⟨ab, ao + k * 7, none⟩ = some (.int .i64 a.o) := HCELL.out _ _ HQ.out.1 w7 (HB57.out.mono hbsr)
    go_upto_block 2 with fail
    go_cut [14] from 64 to 101 (fun c14 wx => ∃ (r : Int × JnP × DkD), c14 = .int .i64 r.1 ∧ Hid (Fine r j d) ∧ Hid (∃ es' F', RoomK w wx bs (bs + 1) bs gj F' (k + 1) r.2.2 r.2.1 es') ∧ Hid (Fr (fun x => DFoot (bs + 1) bs es x ∨ x = gj) w7 wx))
    case first =>
     clear q0
     obtain ⟨ao_, hao⟩ : ∃ x, x = a.o := ⟨_, rfl⟩
     rw [← hao]
     by_cases h0 : ao_ = 0
     ·have q3 : w7.cell? ⟨ab, ao + k * 7 + 3, none⟩ = some (.slice a.Al a.rs.length a.cl) := HCELL.out _ _ HQ.out.2.2.2 w7 (HB57.out.mono hbsr)
      have hbW : Below w.heap.size w w7 := HR7.out.from_
      have hwa5 : (a.rs.map fun q => q.e.b.length + 5).sum ≤ 1048576 := by
       have h1 := hwax
       unfold LAct.wt entsWt at h1
       omega
      have HSV := Lib.hid (room_save HR7.out (by omega) (E := fun x => x < w.heap.size) a.Al a.rs a.cl (HOKX.out.l.rd.keep hbW.size (fun x hx => hbW.block x hx)) (fun q hq => (HOKX.out.l.dat q hq).keep hbW.size (fun x hx => hbW.block x hx)) (fun x hx => by have := hbW.size; omega) hwa5 HOKX.out.l.num)
      have HFN := Lib.hid (save_calm (pw := d.pw) (room := d.room) (fs := d.fs) HR7.out.ri (a.rs.map EntR.e))
      subst h0
      clear hbW hao
      go_wp2_with fail
      refine HSV.out.mono ?_
      rintro e w8 ⟨rfl, hR8, hfr8⟩
      have HR8 := Lib.hid hR8
      have HFR8 := Lib.hid hfr8
      clear hR8 hfr8 HSV q3
      go_wp2_with fail
      go_meet
      exact ⟨_, rfl, HFN, HR8, HFR8⟩
     ·by_cases h1 : ao_ = 1
      ·subst h1
       have HA1 := Lib.hid (HCELL.out _ _ HQ.out.2.1)
       have HA2 := Lib.hid (HCELL.out _ _ HQ.out.2.2.1)
       have HSV := Lib.hid (room_setMeta (HR7.out.below (Below.refl _ w7).drew) (by omega) a.n a.m HOKX.out.n HOKX.out.m)
       have HFN := Lib.hid (setMeta_calm HR7.out.ri a.n a.m)
       clear hao h0
       have HSS : Hid (∀ W, Below bs wr W → W.cell? ⟨ab, ao + k * 7 + 1, none⟩ = some (.int .i64 a.n) ∧ W.cell? ⟨ab, ao + k * 7 + 2, none⟩ = some (.int .i64 a.m) ∧ True ∧ True) := Lib.hid (fun W h => ⟨HA1.out W h, HA2.out W h, trivial, trivial⟩)
       have HBD : Hid (Below bs wr w7.drew) := Lib.hid ((HB57.out.mono hbsr).drew)
       go_upto_region 19 with fail
       refine wp_region_held_drew (S := fun W => W.cell? ⟨ab, ao + k * 7 + 1, none⟩ = some (.int .i64 a.n) ∧ W.cell? ⟨ab, ao + k * 7 + 2, none⟩ = some (.int .i64 a.m) ∧ True ∧ True) (by kernel_rfl) (HSS.out _ HBD.out) (fun hHeld => ?_)
       refine held_take 0 (v := ?_) (by simp) (by kernel_rfl) (by kernel_rfl) (by kernel_rfl) (fun _ _ _ h => h) (Or.inl ⟨by rfl, ?_⟩) hHeld ?_
       case refine_2 => (intro w hSw; (try dsimp only at hSw); (try (obtain ⟨s0, s1, s2, s3⟩ := hSw)); simp only [List.getElem_cons_zero]; go_simp <;> with_reducible rfl)
       simp only [List.getElem_cons_zero, Act.put, List.setIfInBounds_toArray, List.set_cons_zero, List.set_cons_succ]
       refine held_take 1 (v := ?_) (by simp) (by kernel_rfl) (by kernel_rfl) (by kernel_rfl) (fun _ _ _ h => h) (Or.inl ⟨by rfl, ?_⟩) hHeld ?_
       case refine_2 => (intro w hSw; (try dsimp only at hSw); (try (obtain ⟨s0, s1, s2, s3⟩ := hSw)); simp only [List.getElem_cons_zero, List.getElem_cons_succ]; go_simp <;> with_reducible rfl)
       simp only [List.getElem_cons_zero, List.getElem_cons_succ, Act.put, List.setIfInBounds_toArray, List.set_cons_zero, List.set_cons_succ]
       refine held_take 2 (v := ?_) (by simp) (by kernel_rfl) (by kernel_rfl) (by kernel_rfl) (fun _ _ _ h => h) (Or.inl ⟨by rfl, ?_⟩) hHeld ?_
       case refine_2 => (intro w hSw; (try dsimp only at hSw); (try (obtain ⟨s0, s1, s2, s3⟩ := hSw)); simp only [List.getElem_cons_zero, List.getElem_cons_succ]; go_simp <;> with_reducible rfl)
       simp only [List.getElem_cons_zero, List.getElem_cons_succ, Act.put, List.setIfInBounds_toArray, List.set_cons_zero, List.set_cons_succ]
       refine held_take 3 (v := ?_) (by simp) (by kernel_rfl) (by kernel_rfl) (by kernel_rfl) (fun _ _ _ h => h) (Or.inl ⟨by rfl, ?_⟩) hHeld ?_
       case refine_2 => (intro w hSw; (try dsimp only at hSw); (try (obtain ⟨s0, s1, s2, s3⟩ := hSw)); simp only [List.getElem_cons_zero, List.getElem_cons_succ]; go_simp <;> with_reducible rfl)
       simp only [List.getElem_cons_zero, List.getElem_cons_succ, Act.put, List.setIfInBounds_toArray, List.set_cons_zero, List.set_cons_succ]
       refine held_take 4 (v := ?_) (by simp) (by kernel_rfl) (by kernel_rfl) (by kernel_rfl) (fun _ _ _ h => h) (Or.inl ⟨by rfl, ?_⟩) hHeld ?_
       case refine_2 => (intro w hSw; (try dsimp only at hSw); (try (obtain ⟨s0, s1, s2, s3⟩ := hSw)); simp only [List.getElem_cons_zero, List.getElem_cons_succ]; go_simp <;> with_reducible rfl)
       simp only [List.getElem_cons_zero, List.getElem_cons_succ, Act.put, List.setIfInBounds_toArray, List.set_cons_zero, List.set_cons_succ]
       refine held_take 5 (v := ?_) (by simp) (by kernel_rfl) (by kernel_rfl) (by kernel_rfl) (fun _ _ _ h => h) (Or.inl ⟨by rfl, ?_⟩) hHeld ?_
       case refine_2 => (intro w hSw; (try dsimp only at hSw); (try (obtain ⟨s0, s1, s2, s3⟩ := hSw)); simp only [List.getElem_cons_zero, List.getElem_cons_succ]; go_simp <;> with_reducible rfl)
       simp only [List.getElem_cons_zero, List.getElem_cons_succ, Act.put, List.setIfInBounds_toArray, List.set_cons_zero, List.set_cons_succ]
       refine held_take 6 (v := ?_) (by simp) (by kernel_rfl) (by kernel_rfl) (by kernel_rfl) (fun _ _ _ h => h) (Or.inl ⟨by rfl, ?_⟩) hHeld ?_
       case refine_2 => (intro w hSw; (try dsimp only at hSw); (try (obtain ⟨s0, s1, s2, s3⟩ := hSw)); simp only [List.getElem_cons_zero, List.getElem_cons_succ]; go_simp <;> with_reducible rfl)
       simp only [List.getElem_cons_zero, List.getElem_cons_succ, Act.put, List.setIfInBounds_toArray, List.set_cons_zero, List.set_cons_succ]
       refine held_take 7 (v := ?_) (by simp) (by kernel_rfl) (by kernel_rfl) (by kernel_rfl) (fun _ _ _ h => h) (Or.inl ⟨by rfl, ?_⟩) hHeld ?_
       case refine_2 => (intro w hSw; (try dsimp only at hSw); (try (obtain ⟨s0, s1, s2, s3⟩ := hSw)); simp only [List.getElem_cons_zero, List.getElem_cons_succ]; go_simp <;> with_reducible rfl)
       simp only [List.getElem_cons_zero, List.getElem_cons_succ, Act.put, List.setIfInBounds_toArray, List.set_cons_zero, List.set_cons_succ]
       refine held_take 8 (v := ?_) (by simp) (by kernel_rfl) (by kernel_rfl) (by kernel_rfl) (fun _ _ _ h => h) (Or.inl ⟨by rfl, ?_⟩) hHeld ?_
       case refine_2 => (intro w hSw; (try dsimp only at hSw); (try (obtain ⟨s0, s1, s2, s3⟩ := hSw)); simp only [List.getElem_cons_zero, List.getElem_cons_succ]; go_simp <;> with_reducible rfl)
       simp only [List.getElem_cons_zero, List.getElem_cons_succ, Act.put, List.setIfInBounds_toArray, List.set_cons_zero, List.set_cons_succ]
       refine held_take 9 (v := ?_) (by simp) (by kernel_rfl) (by kernel_rfl) (by kernel_rfl) (fun _ _ _ h => h) (Or.inl ⟨by rfl, ?_⟩) hHeld ?_
       case refine_2 => (intro w hSw; (try dsimp only at hSw); (try (obtain ⟨s0, s1, s2, s3⟩ := hSw)); simp only [List.getElem_cons_zero, List.getElem_cons_succ]; go_simp <;> with_reducible rfl)
       simp only [List.getElem_cons_zero, List.getElem_cons_succ, Act.put, List.setIfInBounds_toArray, List.set_cons_zero, List.set_cons_succ]
       refine held_take 10 (v := ?_) (by simp) (by kernel_rfl) (by kernel_rfl) (by kernel_rfl) (fun _ _ _ h => h) (Or.inl ⟨by rfl, ?_⟩) hHeld ?_
       case refine_2 => (intro w hSw; (try dsimp only at hSw); (try (obtain ⟨s0, s1, s2, s3⟩ := hSw)); simp only [List.getElem_cons_zero, List.getElem_cons_succ]; go_simp <;> with_reducible rfl)
       simp only [List.getElem_cons_zero, List.getElem_cons_succ, Act.put, List.setIfInBounds_toArray, List.set_cons_zero, List.set_cons_succ]
       refine held_sole 11 (by simp) (by kernel_rfl) (fun K hK => ?_)
       simp only [List.getElem_cons_zero, List.getElem_cons_succ]
       go_simp
       refine HSV.out.mono ?_
       rintro e w8 ⟨rfl, hR8, hfr8⟩
       have HR8 := Lib.hid hR8
       have HFR8 := Lib.hid (show Fr (fun x => DFoot (bs + 1) bs es x ∨ x = gj) w7 w8 from ⟨hfr8.os, hfr8.tape, hfr8.output, hfr8.size, hfr8.block⟩)
       have hbw8 : Below bs w7 w8 := HFR8.out.below (by omega) (fun x hx => by
        rcases hx with hx | hx
        ·exact (HR7.out.jn.disk.lt x hx).1
        ·rw [hx]; exact HR7.out.jn.lo)
       have hS8 := HSS.out w8 ((HB57.out.mono hbsr).trans hbw8)
       clear hR8 hfr8 HSV hbw8
       refine hK.out _ _ hS8 (fun hHeld => ?_)
       clear hK K
       try simp only [Act.put, List.setIfInBounds_toArray, List.set_cons_zero, List.set_cons_succ]
       refine held_take 12 (v := ?_) (by simp) (by kernel_rfl) (by kernel_rfl) (by kernel_rfl) (fun _ _ _ h => h) (Or.inl ⟨by rfl, ?_⟩) hHeld ?_
       case refine_2 => (intro w hSw; (try dsimp only at hSw); (try (obtain ⟨s0, s1, s2, s3⟩ := hSw)); simp only [List.getElem_cons_zero, List.getElem_cons_succ]; go_simp <;> with_reducible rfl)
       simp only [List.getElem_cons_zero, List.getElem_cons_succ, Act.put, List.setIfInBounds_toArray, List.set_cons_zero, List.set_cons_succ]
       refine wpAnyH_done (by kernel_rfl) ?_ _
       clear hHeld hS8
       go_wp2_with fail
       go_meet
       exact ⟨_, rfl, HFN, HR8, HFR8⟩
      ·by_cases h2 : ao_ = 2
       ·subst h2
        have HA1 := Lib.hid (HCELL.out _ _ HQ.out.2.1)
        have HA2 := Lib.hid (HCELL.out _ _ HQ.out.2.2.1)
        have HSV := Lib.hid (room_compact (HR7.out.below (Below.refl _ w7).drew) (by omega) a.n a.m HOKX.out.n HOKX.out.m)
        have HFN := Lib.hid (compact_calm HR7.out.ri a.n a.m)
        clear hao h0 h1
        have HSS : Hid (∀ W, Below bs wr W → W.cell? ⟨ab, ao + k * 7 + 1, none⟩ = some (.int .i64 a.n) ∧ W.cell? ⟨ab, ao + k * 7 + 2, none⟩ = some (.int .i64 a.m) ∧ True ∧ True) := Lib.hid (fun W h => ⟨HA1.out W h, HA2.out W h, trivial, trivial⟩)
        have HBD : Hid (Below bs wr w7.drew) := Lib.hid ((HB57.out.mono hbsr).drew)
        go_upto_region 21 with fail
        refine wp_region_held_drew (S := fun W => W.cell? ⟨ab, ao + k * 7 + 1, none⟩ = some (.int .i64 a.n) ∧ W.cell? ⟨ab, ao + k * 7 + 2, none⟩ = some (.int .i64 a.m) ∧ True ∧ True) (by kernel_rfl) (HSS.out _ HBD.out) (fun hHeld => ?_)
        refine held_take 0 (v := ?_) (by simp) (by kernel_rfl) (by kernel_rfl) (by kernel_rfl) (fun _ _ _ h => h) (Or.inl ⟨by rfl, ?_⟩) hHeld ?_
        case refine_2 => (intro w hSw; (try dsimp only at hSw); (try (obtain ⟨s0, s1, s2, s3⟩ := hSw)); simp only [List.getElem_cons_zero]; go_simp <;> with_reducible rfl)
        simp only [List.getElem_cons_zero, Act.put, List.setIfInBounds_toArray, List.set_cons_zero, List.set_cons_succ]
        refine held_take 1 (v := ?_) (by simp) (by kernel_rfl) (by kernel_rfl) (by kernel_rfl) (fun _ _ _ h => h) (Or.inl ⟨by rfl, ?_⟩) hHeld ?_
        case refine_2 => (intro w hSw; (try dsimp only at hSw); (try (obtain ⟨s0, s1, s2, s3⟩ := hSw)); simp only [List.getElem_cons_zero, List.getElem_cons_succ]; go_simp <;> with_reducible rfl)
        simp only [List.getElem_cons_zero, List.getElem_cons_succ, Act.put, List.setIfInBounds_toArray, List.set_cons_zero, List.set_cons_succ]
        refine held_take 2 (v := ?_) (by simp) (by kernel_rfl) (by kernel_rfl) (by kernel_rfl) (fun _ _ _ h => h) (Or.inl ⟨by rfl, ?_⟩) hHeld ?_
        case refine_2 => (intro w hSw; (try dsimp only at hSw); (try (obtain ⟨s0, s1, s2, s3⟩ := hSw)); simp only [List.getElem_cons_zero, List.getElem_cons_succ]; go_simp <;> with_reducible rfl)
        simp only [List.getElem_cons_zero, List.getElem_cons_succ, Act.put, List.setIfInBounds_toArray, List.set_cons_zero, List.set_cons_succ]
        refine held_take 3 (v := ?_) (by simp) (by kernel_rfl) (by kernel_rfl) (by kernel_rfl) (fun _ _ _ h => h) (Or.inl ⟨by rfl, ?_⟩) hHeld ?_
        case refine_2 => (intro w hSw; (try dsimp only at hSw); (try (obtain ⟨s0, s1, s2, s3⟩ := hSw)); simp only [List.getElem_cons_zero, List.getElem_cons_succ]; go_simp <;> with_reducible rfl)
        simp only [List.getElem_cons_zero, List.getElem_cons_succ, Act.put, List.setIfInBounds_toArray, List.set_cons_zero, List.set_cons_succ]
        refine held_take 4 (v := ?_) (by simp) (by kernel_rfl) (by kernel_rfl) (by kernel_rfl) (fun _ _ _ h => h) (Or.inl ⟨by rfl, ?_⟩) hHeld ?_
        case refine_2 => (intro w hSw; (try dsimp only at hSw); (try (obtain ⟨s0, s1, s2, s3⟩ := hSw)); simp only [List.getElem_cons_zero, List.getElem_cons_succ]; go_simp <;> with_reducible rfl)
        simp only [List.getElem_cons_zero, List.getElem_cons_succ, Act.put, List.setIfInBounds_toArray, List.set_cons_zero, List.set_cons_succ]
        refine held_take 5 (v := ?_) (by simp) (by kernel_rfl) (by kernel_rfl) (by kernel_rfl) (fun _ _ _ h => h) (Or.inl ⟨by rfl, ?_⟩) hHeld ?_
        case refine_2 => (intro w hSw; (try dsimp only at hSw); (try (obtain ⟨s0, s1, s2, s3⟩ := hSw)); simp only [List.getElem_cons_zero, List.getElem_cons_succ]; go_simp <;> with_reducible rfl)
        simp only [List.getElem_cons_zero, List.getElem_cons_succ, Act.put, List.setIfInBounds_toArray, List.set_cons_zero, List.set_cons_succ]
        refine held_take 6 (v := ?_) (by simp) (by kernel_rfl) (by kernel_rfl) (by kernel_rfl) (fun _ _ _ h => h) (Or.inl ⟨by rfl, ?_⟩) hHeld ?_
        case refine_2 => (intro w hSw; (try dsimp only at hSw); (try (obtain ⟨s0, s1, s2, s3⟩ := hSw)); simp only [List.getElem_cons_zero, List.getElem_cons_succ]; go_simp <;> with_reducible rfl)
        simp only [List.getElem_cons_zero, List.getElem_cons_succ, Act.put, List.setIfInBounds_toArray, List.set_cons_zero, List.set_cons_succ]
        refine held_take 7 (v := ?_) (by simp) (by kernel_rfl) (by kernel_rfl) (by kernel_rfl) (fun _ _ _ h => h) (Or.inl ⟨by rfl, ?_⟩) hHeld ?_
        case refine_2 => (intro w hSw; (try dsimp only at hSw); (try (obtain ⟨s0, s1, s2, s3⟩ := hSw)); simp only [List.getElem_cons_zero, List.getElem_cons_succ]; go_simp <;> with_reducible rfl)
        simp only [List.getElem_cons_zero, List.getElem_cons_succ, Act.put, List.setIfInBounds_toArray, List.set_cons_zero, List.set_cons_succ]
        refine held_take 8 (v := ?_) (by simp) (by kernel_rfl) (by kernel_rfl) (by kernel_rfl) (fun _ _ _ h => h) (Or.inl ⟨by rfl, ?_⟩) hHeld ?_
        case refine_2 => (intro w hSw; (try dsimp only at hSw); (try (obtain ⟨s0, s1, s2, s3⟩ := hSw)); simp only [List.getElem_cons_zero, List.getElem_cons_succ]; go_simp <;> with_reducible rfl)
        simp only [List.getElem_cons_zero, List.getElem_cons_succ, Act.put, List.setIfInBounds_toArray, List.set_cons_zero, List.set_cons_succ]
        refine held_take 9 (v := ?_) (by simp) (by kernel_rfl) (by kernel_rfl) (by kernel_rfl) (fun _ _ _ h => h) (Or.inl ⟨by rfl, ?_⟩) hHeld ?_
        case refine_2 => (intro w hSw; (try dsimp only at hSw); (try (obtain ⟨s0, s1, s2, s3⟩ := hSw)); simp only [List.getElem_cons_zero, List.getElem_cons_succ]; go_simp <;> with_reducible rfl)
        simp only [List.getElem_cons_zero, List.getElem_cons_succ, Act.put, List.setIfInBounds_toArray, List.set_cons_zero, List.set_cons_succ]
        refine held_take 10 (v := ?_) (by simp) (by kernel_rfl) (by kernel_rfl) (by kernel_rfl) (fun _ _ _ h => h) (Or.inl ⟨by rfl, ?_⟩) hHeld ?_
        case refine_2 => (intro w hSw; (try dsimp only at hSw); (try (obtain ⟨s0, s1, s2, s3⟩ := hSw)); simp only [List.getElem_cons_zero, List.getElem_cons_succ]; go_simp <;> with_reducible rfl)
        simp only [List.getElem_cons_zero, List.getElem_cons_succ, Act.put, List.setIfInBounds_toArray, List.set_cons_zero, List.set_cons_succ]
        refine held_sole 11 (by simp) (by kernel_rfl) (fun K hK => ?_)
        simp only [List.getElem_cons_zero, List.getElem_cons_succ]
        go_simp
        refine HSV.out.mono ?_
        rintro e w8 ⟨rfl, hR8, hfr8⟩
        have HR8 := Lib.hid hR8
        have HFR8 := Lib.hid (show Fr (fun x => DFoot (bs + 1) bs es x ∨ x = gj) w7 w8 from ⟨hfr8.os, hfr8.tape, hfr8.output, hfr8.size, hfr8.block⟩)
        have hbw8 : Below bs w7 w8 := HFR8.out.below (by omega) (fun x hx => by
         rcases hx with hx | hx
         ·exact (HR7.out.jn.disk.lt x hx).1
         ·rw [hx]; exact HR7.out.jn.lo)
        have hS8 := HSS.out w8 ((HB57.out.mono hbsr).trans hbw8)
        clear hR8 hfr8 HSV hbw8
        refine hK.out _ _ hS8 (fun hHeld => ?_)
        clear hK K
        try simp only [Act.put, List.setIfInBounds_toArray, List.set_cons_zero, List.set_cons_succ]
        refine held_take 12 (v := ?_) (by simp) (by kernel_rfl) (by kernel_rfl) (by kernel_rfl) (fun _ _ _ h => h) (Or.inl ⟨by rfl, ?_⟩) hHeld ?_
        case refine_2 => (intro w hSw; (try dsimp only at hSw); (try (obtain ⟨s0, s1, s2, s3⟩ := hSw)); simp only [List.getElem_cons_zero, List.getElem_cons_succ]; go_simp <;> with_reducible rfl)
        simp only [List.getElem_cons_zero, List.getElem_cons_succ, Act.put, List.setIfInBounds_toArray, List.set_cons_zero, List.set_cons_succ]
        refine wpAnyH_done (by kernel_rfl) ?_ _
        clear hHeld hS8
        go_wp2_with fail
        go_meet
        exact ⟨_, rfl, HFN, HR8, HFR8⟩
       ·have e0 : (ao_ == 0) = false := beq_eq_false_iff_ne.2 h0
        have e1 : (ao_ == 1) = false := beq_eq_false_iff_ne.2 h1
        have e2 : (ao_ == 2) = false := beq_eq_false_iff_ne.2 h2
        have HRR : Hid (∃ es' F', RoomK w w7 bs (bs + 1) bs gj F' (k + 1) d j es') := Lib.hid ⟨es, F, HR7.out.jn, HR7.out.ri, HR7.out.rb.mono (by omega), HR7.out.low, HR7.out.bw, HR7.out.from_, HR7.out.facts⟩
        have HFN : Hid (Fine ((0 : Int), j, d) j d) := Lib.hid (Fine.same HR7.out.ri (by decide))
        clear hao
        go_wp2_with fail
        go_meet
        exact ⟨(0, j, d), rfl, HFN, HRR, Lib.hid (Fr.refl _ _)⟩
    case rest =>
     obtain ⟨⟨rc, j', d'⟩, h14, HFN, HRX, HFR⟩ := hcut
     subst h14
     obtain ⟨esX, FX, hRX⟩ := HRX.out
     simp only at hRX
     have hRX2 : RoomK w wc bs (bs + 1) bs gj FX (k + 1) d' j' esX := hRX
     have HRX2 := Lib.hid hRX2
     have hsx := HFR.out.size
     have hgjr := HR.out.jn.jn.lt
     have HKEEP : Hid (∀ x, wr.heap.size ≤ x → x < w7.heap.size → wc.heap[x]? = w7.heap[x]?) := Lib.hid (fun x h1 h2 => HFR.out.block x h2 (by
      rintro (h3 | h3)
      ·have := (HR.out.jn.disk.lt x h3).2; omega
      ·omega))
     have hFn : rc = 0 ∨ rc ≠ 50 ∧ (j', d') = (j, d) := HFN.out.2
     have HME := Lib.hid hRX2.jn.jn.meta_
     clear hRX hRX2 HRX HFN HFR
     go_wp2_with fail
     refine HME.out.mono ?_
     rintro e w9 ⟨rfl, hb9⟩
     have hs9 := hb9.size
     have HB9 := Lib.hid hb9
     have HR9 := Lib.hid (HRX2.out.below hb9)
     clear hb9 HME HRX2
     by_cases hz : rc = 0
     ·subst hz
      clear hFn
      go_wp2_with fail
      go_roundw
      case rel => exact ⟨k + 1, by omega, by go_num, by omega, Lib.hid ⟨_, _, _, _, HR9.out⟩⟩
      case measure => simp [intOf]; omega
     ·obtain ⟨h50, hjd⟩ : rc ≠ 50 ∧ (j', d') = (j, d) := by
       rcases hFn with h | h
       ·exact absurd h hz
       ·exact h
      injection hjd with e1 e2
      subst e1 e2
      have e50 : (rc == 50) = false := beq_eq_false_iff_ne.2 h50
      have e0 : (rc != 0) = true := bne_iff_ne.2 hz
      have HFI := Lib.hid (room_files HR9.out (by omega))
      clear hFn hz h50
      go_wp2_with fail
      refine HFI.out.mono ?_
      rintro e w10 ⟨A10, rs10, c10, rfl, hrow10, hgot10, hsec10, hb10⟩
      have hs10 := hb10.size
      have hk5 : ∀ x, wr.heap.size ≤ x → x < w5.heap.size → w10.heap[x]? = w5.heap[x]? := fun x h1 h2 => (hb10.block x (by omega)).trans ((HB9.out.block x (by omega)).trans ((HKEEP.out x h1 (by omega)).trans ((HB7.out.block x (by omega)).trans (HB6.out.block x h2))))
      obtain ⟨hrow5, hgot5⟩ := rrow_keep HROW5.out HGOT5.out (by omega) hk5
      have hfr5 := rrow_frd2 hrow5 hgot5
      have hfr10 := rrow_frd2 hrow10 hgot10
      have hjd := HR.out.jdk (by omega)
      have hrl5 : rs5.length = d'.fs.length := by have h := congrArg List.length HSEC5.out; simpa [sec] using h
      have HSA := Lib.hid (rsame_any A5 A10 rs5 rs10 c5 c10 w10 hfr5 hfr10 (HSEC5.out.trans hsec10.symm) (by have := hjd.len; omega) (fun q hq => by
       have hm : (q.1, q.2.f) ∈ d'.fs := by rw [← HSEC5.out]; exact List.mem_map.2 ⟨q, hq, rfl⟩
       have h1 := jsizes_mem hm
       have h2 := hjd.sz
       have h3 : (q.2.f.b.length : Int) ≤ sizes d'.fs := h1
       omega))
      have HB10 := Lib.hid hb10
      clear hrow10 hgot10 hsec10 hb10 hk5 hrow5 hgot5 hfr5 hfr10 hjd hrl5 HFI
      go_wp2_with fail
      refine HSA.out.mono ?_
      rintro e w11 ⟨rfl, hb11⟩
      have hs11 := hb11.size
      have HB911 := Lib.hid (HB10.out.trans (hb11.mono hs10))
      have HR11 := Lib.hid (HR9.out.below HB911.out)
      have HEN := Lib.hid (room_entries HR11.out (by omega))
      clear hb11 HSA HB10
      go_wp2_with fail
      refine HEN.out.mono ?_
      rintro e w12 ⟨A12, rs12, c12, rfl, hrd12, hmap12, hdat12, hb12⟩
      have hs12 := hb12.size
      have hk6 : ∀ x, (w5.heap.size ≤ x ∧ x < w6.heap.size) → w12.heap[x]? = w6.heap[x]? := fun x h1 => (hb12.block x (by omega)).trans ((HB911.out.block x (by omega)).trans ((HB9.out.block x (by omega)).trans ((HKEEP.out x (by omega) (by omega)).trans (HB7.out.block x h1.2))))
      have hel := HR.out.entsLen (by omega)
      have hl6 : rs6.length ≤ 1099511627776 := by have h := congrArg List.length HMAP6.out; rw [List.length_map] at h; omega
      have hl12 : rs12.length ≤ 1099511627776 := by have h := congrArg List.length hmap12; rw [List.length_map] at h; omega
      have hbb : ∀ (rs : List EntR), rs.map EntR.e = j'.ents → ∀ q ∈ rs, q.e.b.length ≤ 140737488351232 := fun rs hm q hq => by
       have h1 : q.e ∈ j'.ents := by rw [← hm]; exact List.mem_map.2 ⟨q, hq, rfl⟩
       have h2 := HR.out.jn.jn.txt _ h1
       omega
      have HSE := Lib.hid (jsame_any A6 A12 rs6 rs12 c6 c12 w12 (HRD6.out.keep (by omega) hk6) hrd12 (fun q hq => (HDAT6.out q hq).keep (by omega) hk6) hdat12 (fun x hx => by omega) (fun x hx => hx.2) hl6 hl12 (hbb rs6 HMAP6.out) (hbb rs12 hmap12))
      rw [HMAP6.out, hmap12, sameE_refl] at HSE
      have HR12 := Lib.hid (HR11.out.below hb12)
      clear hrd12 hmap12 hdat12 hb12 hk6 hel hl6 hl12 hbb HEN HR11
      go_wp2_with fail
      refine HSE.out.mono ?_
      rintro e w13 ⟨rfl, hb13⟩
      have HR13 := Lib.hid (HR12.out.below hb13)
      clear hb13 HSE
      go_wp2_with fail
      go_roundw
      case rel => exact ⟨k + 1, by omega, by go_num, by omega, Lib.hid ⟨_, _, _, _, HR13.out⟩⟩
      case measure => simp [intOf]; omega
   ·have hk6 : k = 60 := by omega
    subst hk6
    go_wp2_with fail
    go_ret
    exact ⟨rfl, HBW.out⟩
  ·go_wp2_with fail
   go_ret
   exact ⟨rfl, HBW.out⟩
theorem journalRooms_facts (W : World) (h : laidMet Tryz.prog Rows.journalRoomsUptoRow.laid W) : Facts W := facts_of h
theorem journalRooms_walk (w : World) (ht : Facts w) (room : Int) (hroom : -9223372036854775808 ≤ room ∧ room ≤ 9223372036854775807) (A : Option Addr) (acs : List LAct) (c : Nat) (g : InLActs w A acs c) (hb : (acs.map LAct.wt).sum ≤ 1048576) :
  Calls Tryz.prog 5 #[.int .i64 room, .slice A acs.length c] w fun e w' => e = .returned (.bool true) ∧ Below w.heap.size w w' := journalRooms_any room hroom A acs c w g hb ht
end Go.Proofs.YtgeofijddhflaaaGreatDoor
