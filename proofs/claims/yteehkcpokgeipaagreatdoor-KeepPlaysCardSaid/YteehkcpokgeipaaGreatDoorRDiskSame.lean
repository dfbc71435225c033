/- Two rows of files that are one (pavaneref21.Same). Condition: they can be read, and hold the same. -/
import Derived.Test.YteehkcpokgeipaaGreatDoorRDiskBoot
import Derived.Test.YteehkcpokgeipaaGreatDoorRDiskApp
import Derived.Test.YteehkcpokgeipaaGreatDoorHeld
import Derived.Test.YteehkcpokgeipaaGreatDoorKeepRPieces
import Derived.Deep.DeepCutAuto
set_option linter.unusedVariables false
set_option linter.unusedSimpArgs false
namespace Go.Proofs.YteehkcpokgeipaaGreatDoor
open Go.RowKit Go.Maps Go.Sort Oct
def bootAt (keep : List Int) (i : Nat) (f : FD) : FD :=
 ⟨f.b.take (f.safe + if i < keep.length then (keep.getD i 0 % ((f.b.length : Int) - f.safe + 1)).toNat else 0), f.safe + if i < keep.length then (keep.getD i 0 % ((f.b.length : Int) - f.safe + 1)).toNat else 0⟩
def bootK (keep : List Int) (k : Nat) (fs : List (Nm × FD)) : List (Nm × FD) := fs.mapIdx fun i q => if i < k then (q.1, bootAt keep i q.2) else q
def DkD.boot (d : DkD) (keep : List Int) : DkD := ⟨⟨false, false, 0, 0⟩, d.room, bootK keep d.fs.length d.fs⟩
theorem bootK_zero (keep : List Int) (fs : List (Nm × FD)) : bootK keep 0 fs = fs := by
 unfold bootK
 refine List.ext_getElem (by simp) fun i h1 h2 => ?_
 rw [List.getElem_mapIdx, if_neg (by omega)]
theorem bootK_length (keep : List Int) (k : Nat) (fs : List (Nm × FD)) : (bootK keep k fs).length = fs.length := by unfold bootK; simp
theorem bootK_get (keep : List Int) {k : Nat} {fs : List (Nm × FD)} (hk : k < fs.length) (h : k < (bootK keep k fs).length) : (bootK keep k fs)[k] = fs[k] := by
 have h1 : ∀ h', (fs.mapIdx fun i q => if i < k then (q.1, bootAt keep i q.2) else q)[k]'h' = fs[k] := fun h' => by rw [List.getElem_mapIdx, if_neg (by omega)]
 exact h1 _
theorem bootK_step (keep : List Int) {k : Nat} {fs : List (Nm × FD)} (hk : k < fs.length) : (bootK keep k fs).set k (fs[k].1, bootAt keep k fs[k].2) = bootK keep (k + 1) fs := by
 unfold bootK
 refine List.ext_getElem (by simp) fun i h1 h2 => ?_
 rw [List.getElem_set, List.getElem_mapIdx, List.getElem_mapIdx]
 by_cases he : k = i
 ·subst he
  rw [if_pos rfl, if_pos (by omega)]
 ·rw [if_neg he]
  by_cases hlt : i < k
  ·rw [if_pos hlt, if_pos (by omega)]
  ·rw [if_neg hlt, if_neg (by omega)]
theorem bootAt_safe (keep : List Int) (i : Nat) (f : FD) (h : f.safe ≤ f.b.length) : (bootAt keep i f).safe ≤ f.b.length ∧ (bootAt keep i f).b = f.b.take (bootAt keep i f).safe := by
 refine ⟨?_, rfl⟩
 unfold bootAt
 show f.safe + _ ≤ _
 split
 ·have h1 := Int.emod_lt_of_pos (keep.getD i 0) (show (0 : Int) < (f.b.length : Int) - f.safe + 1 by omega)
  have h2 := Int.emod_nonneg (keep.getD i 0) (show ((f.b.length : Int) - f.safe + 1) ≠ 0 by omega)
  omega
 ·omega
section
variable {w w1 w2 wr : World} {base g : Nat} {p p' : PWD} {room : Int} {vL vL' : Value} {es es' : List (Nm × RF)}
theorem sec_set {α β : Type} (f : α → β) (l : List (Nm × α)) (k : Nat) (q : Nm × α) : sec f (l.set k q) = (sec f l).set k (q.1, f q.2) := by simp only [sec, List.map_set]
theorem RDiskAt.boot1 {b c L : Nat} (hL : es.length = L) (h : RDiskAt wr base g p room (.slice (some ⟨b, 0, none⟩) L c) es) {k : Nat} (hk : k < es.length) (s : Nat) (hs : s ≤ es[k].2.f.b.length) (nt : Nat) :
  RDiskAt ((wr.drewN nt).setCell ⟨b, k * 3 + 2, none⟩ (.int .i64 s)) base g p room (.slice (some ⟨b, 0, none⟩) L c) (es.set k (es[k].1, ⟨es[k].2.v, ⟨es[k].2.f.b, s⟩⟩)) ∧ Fr (RFoot g (.slice (some ⟨b, 0, none⟩) L c) es) wr ((wr.drewN nt).setCell ⟨b, k * 3 + 2, none⟩ (.int .i64 s)) ∧
  (∀ i, RFoot g (.slice (some ⟨b, 0, none⟩) L c) (es.set k (es[k].1, ⟨es[k].2.v, ⟨es[k].2.f.b, s⟩⟩)) i → RFoot g (.slice (some ⟨b, 0, none⟩) L c) es i ∨ wr.heap.size ≤ i) := by
 subst hL
 have hm : es[k] ∈ es := List.getElem_mem hk
 have h1 := (h.drewN_ nt).setFile (w1 := wr) hk (j := 2) (by omega) (.int .i64 (s : Int)) ⟨es[k].2.v, ⟨es[k].2.f.b, s⟩⟩ (by simp [rfOne]) ((h.got _ hm).kept (fun _ _ => rfl) (Nat.le_refl _)) hs (fun i hi => .inl (.inr (.inr ⟨_, hm, hi⟩)))
 rw [asPut_set h.rising hk] at h1
 exact ⟨h1.1, ((Fr.refl _ _).drewN_ nt).trans h1.2.1 (fun j hj => .inl hj), h1.2.2⟩
theorem RDiskAt.boot2 {b c L : Nat} (hL : es.length = L) (h : RDiskAt wr base g p room (.slice (some ⟨b, 0, none⟩) L c) es) (hb : Below wr.heap.size wr w2) {k : Nat} (hk : k < es.length) {v : Value} {l : List UInt8} (hs : es[k].2.f.safe ≤ l.length) (hg : Got w2 wr.heap.size v l) :
  RDiskAt (w2.setCell ⟨b, k * 3 + 1, none⟩ v) base g p room (.slice (some ⟨b, 0, none⟩) L c) (es.set k (es[k].1, ⟨v, ⟨l, es[k].2.f.safe⟩⟩)) ∧ Fr (RFoot g (.slice (some ⟨b, 0, none⟩) L c) es) wr (w2.setCell ⟨b, k * 3 + 1, none⟩ v) ∧
  (∀ i, RFoot g (.slice (some ⟨b, 0, none⟩) L c) (es.set k (es[k].1, ⟨v, ⟨l, es[k].2.f.safe⟩⟩)) i → RFoot g (.slice (some ⟨b, 0, none⟩) L c) es i ∨ wr.heap.size ≤ i) := by
 subst hL
 have hbw : base ≤ wr.heap.size := by have := h.low; have := h.glt; omega
 have h1 := (h.below hb).setFile (w1 := wr) hk (j := 1) (by omega) v ⟨v, ⟨l, es[k].2.f.safe⟩⟩ (by simp [rfOne]) (hg.mono hbw) hs (fun i hi => .inr (hg.row.base i hi))
 rw [asPut_set h.rising hk] at h1
 exact ⟨h1.1, (Fr.of_below _ hb).trans h1.2.1 (fun j hj => .inl hj), h1.2.2⟩
set_option maxHeartbeats 8000000 in
set_option maxRecDepth 100000 in
theorem rboot_any (h : RDiskAt w base g p room vL es) (A : Option Addr) (z : List Int) (cz : Nat) (hz : Rd w base A (z.map (Value.int .i64))) (hzb : ∀ n ∈ z, -9223372036854775808 ≤ n ∧ n ≤ 9223372036854775807) (hzl : z.length ≤ 140737488351232) (hl : es.length ≤ 549755813888) (hfe : ∀ q ∈ es, q.2.f.b.length ≤ 549755813888) :
  Calls Tryz.prog 40 #[.pointer (some ⟨g, 0, none⟩), .slice A z.length cz] w fun e w' => (∃ v, e = .returned v) ∧ RTo w base g vL es ((rkOf p room es).boot z) w' := by
 have H := Lib.hid h
 have HZ := Lib.hid hz
 have HZB := Lib.hid hzb
 have HFE := Lib.hid hfe
 obtain ⟨AL, c, hvL, hlc, hcm, -⟩ := h.shape
 have hs0 := h.safe
 have HSF := Lib.hid hs0
 clear h hz hzb hfe hs0
 subst hvL
 go_enter Tryz.func40, Tryz.ntmps40
 go_wp2_with fail
 go_loopw [4] (fun i wr => ∃ (k : Nat) (es' : List (Nm × RF)), k ≤ es.length ∧ i = .int .i64 k ∧ Hid (RDiskAt wr base g p room (.slice AL es.length c) es') ∧ Hid (sec RF.f es' = bootK z k (sec RF.f es)) ∧ Hid (Fr (RFoot g (.slice AL es.length c) es) w wr) ∧ Hid (∀ j, RFoot g (.slice AL es.length c) es' j → RFoot g (.slice AL es.length c) es j ∨ w.heap.size ≤ j)) (fun i _ => es.length - (intOf i).toNat)
 case atStart => exact ⟨0, es, by omega, rfl, H, Lib.hid (bootK_zero _ _).symm, Lib.hid (Fr.refl _ _), Lib.hid (fun j hj => .inl hj)⟩
 case round =>
  obtain ⟨k, es', hk, rfl, HD, HS, HF, HK⟩ := hrel
  have hlen : es'.length = es.length := by have := congrArg List.length HS.out; simpa [bootK_length, sec] using this
  obtain ⟨x1, y1, hb1, hxy1⟩ := HD.out.blk
  have d0 : wr.cell? ⟨g, 0, none⟩ = some (.slice AL es.length c) := hb1.cell 0
  have d2 : wr.cell? ⟨g, 2, none⟩ = some (.bool p.off) := hb1.cell 2
  have d3 : wr.cell? ⟨g, 3, none⟩ = some (.bool p.armed) := hb1.cell 3
  have f2 : wr.frozen? ⟨g, 2, none⟩ = false := hb1.frozen 2
  have f3 : wr.frozen? ⟨g, 3, none⟩ = false := hb1.frozen 3
  by_cases hlt : k < es.length
  ·have hk' : k < es'.length := by omega
   obtain ⟨A9, c9, h9, -, -, hat⟩ := HD.out.shape
   injection h9 with h9 h9l h9c
   subst h9 h9c
   clear h9l
   obtain ⟨b, hAL, hbl, q0, q1, q2, t1, t2⟩ := hat k hk'
   subst hAL
   have hm : es'[k] ∈ es' := List.getElem_mem hk'
   obtain ⟨Ax, cx, hv, hvl, hvc, hvr⟩ := (HD.out.got _ hm).shape
   have hsf := HD.out.safe _ hm
   have hgb : g ≠ b := fun e => row_blk_ne HD.out.own hb1 (by decide) (by rw [e]; rfl)
   have hek : (es'[k].1, es'[k].2.f) = (sec RF.f es)[k]'(by rw [sec_length]; exact hlt) := by
    have h1 := bootK_get z (fs := sec RF.f es) (k := k) (by rw [sec_length]; exact hlt) (by rw [bootK_length, sec_length]; exact hlt)
    rw [← h1]
    have h2 : (sec RF.f es')[k]'(by rw [sec_length]; exact hk') = (es'[k].1, es'[k].2.f) := by simp [sec]
    rw [← h2]
    exact List.getElem_of_eq HS.out _
   have hfl : es'[k].2.f.b.length ≤ 549755813888 := by
    have h1 : (sec RF.f es)[k]'(by rw [sec_length]; exact hlt) = (es[k].1, es[k].2.f) := by simp [sec]
    rw [h1] at hek
    injection hek with _ h2
    rw [h2]
    exact HFE.out _ (List.getElem_mem hlt)
   have hB := bootAt_safe z k es'[k].2.f hsf
   have HFRz : Hid (∀ ad, A = some ad → ad.block < base → wr.heap[ad.block]? = w.heap[ad.block]?) := Lib.hid (fun ad e hlo => HF.out.block ad.block (by have := H.out.low; have := H.out.glt; omega) (fun hm => by have := (H.out.lt _ hm).1; omega))
   obtain ⟨q, hq⟩ : ∃ q, q = es'[k] := ⟨_, rfl⟩
   have hqn : q.1 = ((sec RF.f es)[k]'(by rw [sec_length]; exact hlt)).1 := by rw [← hek, hq]
   have hqf : q.2.f = ((sec RF.f es)[k]'(by rw [sec_length]; exact hlt)).2 := by rw [← hek, hq]
   have HSTEP : Hid (∀ s v, s = (bootAt z k q.2.f).safe → sec RF.f (es'.set k (q.1, ⟨v, ⟨q.2.f.b.take s, s⟩⟩)) = bootK z (k + 1) (sec RF.f es)) := Lib.hid (fun s v hs => by
    rw [sec_set, HS.out, ← bootK_step z (by rw [sec_length]; exact hlt), ← hqf, ← hqn]
    show _ = (bootK z k (sec RF.f es)).set k (q.1, bootAt z k q.2.f)
    rw [hs]
    rfl)
   have HBT := Lib.hid (fun s (hs : s ≤ es'[k].2.f.b.length) nt => HD.out.boot1 hlen hk' s hs nt)
   rw [← hq] at q1 q2 hv hvl hvr hsf hfl hB HBT
   rw [hv] at q1
   have HQ := Lib.hid hq
   have HVR := Lib.hid hvr
   have HB := Lib.hid hB
   have HV := Lib.hid hv
   obtain ⟨qn, qv, qb, qs⟩ := q
   simp only at q1 q2 hvl hsf hfl
   have hkL : (k : Int) < (es.length : Int) := by omega
   have HLEN := Lib.hid hlen
   clear hlen hek hqn hqf hq hv hvr hB hat hm q0 hb1 hxy1 d2 d3 f2 f3
   by_cases hkz : k < z.length
   ·obtain ⟨nn, hnn⟩ : ∃ nn : Nat, z.getD k 0 % ((qb.length : Int) - qs + 1) = (nn : Int) := ⟨(z.getD k 0 % ((qb.length : Int) - qs + 1)).toNat, by have := Int.emod_nonneg (z.getD k 0) (show ((qb.length : Int) - qs + 1) ≠ 0 by omega); omega⟩
    have hsum : (bootAt z k ⟨qb, qs⟩).safe = qs + nn := by
     unfold bootAt
     show qs + _ = _
     rw [if_pos hkz, hnn]
     rfl
    have hsl : qs + nn ≤ qb.length := by have := HB.out.1; simp only at this; rw [hsum] at this; exact this
    obtain ⟨adz, hA, hadz, hcz⟩ := rd_at HZ.out hkz
    have hcz' : wr.cell? (adz.add k) = some (.int .i64 (z.getD k 0)) := by
     rw [show z.getD k 0 = z[k] by simp [List.getD, hkz]]
     exact (World.cell?_of_block (w := w) (by rw [block_of_add]; exact HFRz.out adz hA hadz)).trans hcz
    have hzb := HZB.out _ (List.getElem_mem hkz)
    rw [show z[k] = z.getD k 0 by simp [List.getD, hkz]] at hzb
    have HMO := fun W : World => Lib.hid (rmod_any (z.getD k 0) ((qb.length : Int) - qs + 1) hzb (by omega) W)
    rw [hnn] at HMO
    have HSUM := Lib.hid hsum
    obtain ⟨zk, hzk⟩ : ∃ zk, zk = z.getD k 0 := ⟨_, rfl⟩
    rw [← hzk] at hcz' hzb HMO
    have hkzI : (k : Int) < (z.length : Int) := by omega
    subst hA
    clear hnn hsum hcz hadz hzk
    go_wp2_with fail
    go_quiet (fail)
    go_wp2_with fail
    refine (HMO _).out.mono ?_
    rintro e w' ⟨rfl, rfl⟩
    go_wp2_with fail
    refine wp_region_quiet_tail 17 (by kernel_rfl) (by kernel_rfl) ?_
    simp only [List.take_succ_cons, List.take_zero, List.drop_succ_cons, List.drop_zero]
    iterate 17 go_big_quiet_step (fail)
    refine wpQuiet_nil ?_
    rintro _ ⟨nt, rfl⟩
    go_wp2_with fail
    obtain ⟨s, hs⟩ : ∃ s, s = qs + nn := ⟨_, rfl⟩
    rw [show (qs : Int) + (nn : Int) = (s : Int) by omega]
    rw [← hs] at hsl HSUM
    clear hs
    obtain ⟨W1, hW1⟩ : ∃ W1, W1 = (wr.drewN (nq + nt)).setCell ⟨b, k * 3 + 2, none⟩ (.int .i64 ((s : Int))) := ⟨_, rfl⟩
    have hbt := HBT.out (s) hsl (nq + nt)
    try simp only at hbt
    rw [← hW1] at hbt ⊢
    have hn1 : (⟨b, k * 3 + 2, none⟩ : Addr) ≠ ⟨g, 0, none⟩ := by intro e; injection e with e; exact hgb e.symm
    have hn2 : (⟨b, k * 3 + 2, none⟩ : Addr) ≠ ⟨b, k * 3 + 1, none⟩ := by intro e; injection e with _ e; omega
    have e0 : W1.cell? ⟨g, 0, none⟩ = some (.slice (some ⟨b, 0, none⟩) es.length c) := by rw [hW1, World.cell?_setCell_other (h := hn1)]; exact d0
    have e1 : W1.cell? ⟨b, k * 3 + 1, none⟩ = some (.slice Ax qb.length cx) := by rw [hW1, World.cell?_setCell_other (h := hn2)]; exact q1
    have e2 : W1.cell? ⟨b, k * 3 + 2, none⟩ = some (.int .i64 ((s : Int))) := by rw [hW1]; exact World.cell?_setCell_same (w := wr.drewN (nq + nt)) (u := .int .i64 (qs : Int)) _ _ q2
    have tf : W1.frozen? ⟨b, k * 3 + 1, none⟩ = false := by rw [hW1, World.frozen?_setCell]; exact t1
    have hmem1 : (qn, (⟨qv, ⟨qb, s⟩⟩ : RF)) ∈ es'.set k (qn, ⟨qv, ⟨qb, s⟩⟩) := List.mem_set (by omega) _
    have hvr1 : Rd W1 W1.heap.size Ax (cells (qb.take (s))) := by
     obtain ⟨A8, c8, h8, _, _, r8⟩ := (hbt.1.got _ hmem1).shape
     simp only at h8 r8
     rw [HV.out] at h8
     injection h8 with h8 _ _
     rw [h8]
     unfold cells
     rw [List.map_take]
     exact Rd.take r8 _
    have hgl1 : g < W1.heap.size := hbt.1.glt
    have hbl1 : b < W1.heap.size := by rw [hW1]; simpa using hbl
    have hcut := fun W : World => run_cut (P := Tryz.prog) Tryz.underlying27 info_u8 Ax qb.length cx 0 (s) (by omega) (by omega) 0 ((s : Int)) rfl (by omega) W
    have hscx : s ≤ cx := by omega
    have HBT1 := Lib.hid hbt
    have HVR1 := Lib.hid hvr1
    clear hbt hvr1 hmem1 hW1 d0 q1 q2 t1 t2 hn1 hn2 hbl
    refine wp_region_heldT 26 (by kernel_rfl) (S := fun W => W.cell? ⟨g, 0, none⟩ = some (.slice (some ⟨b, 0, none⟩) es.length c) ∧ W.cell? ⟨b, k * 3 + 1, none⟩ = some (.slice Ax qb.length cx) ∧ W.cell? ⟨b, k * 3 + 2, none⟩ = some (.int .i64 ((s : Int))) ∧ True) ⟨e0, e1, e2, trivial⟩ (fun hHeld => ?_)
    refine heldT_take 0 (v := ?_) (by simp) (by kernel_rfl) (by kernel_rfl) (by kernel_rfl) (by kernel_rfl) (fun _ _ _ h => h) (Or.inl ⟨by rfl, ?_⟩) hHeld ?_
    case refine_2 => (intro w hSw; (try dsimp only at hSw); (try (obtain ⟨s0, s1, s2, s3⟩ := hSw)); simp only [List.getElem_cons_zero]; go_simp <;> with_reducible rfl)
    simp only [List.getElem_cons_zero, Act.put, List.setIfInBounds_toArray, List.set_cons_zero, List.set_cons_succ]
    refine heldT_take 1 (v := ?_) (by simp) (by kernel_rfl) (by kernel_rfl) (by kernel_rfl) (by kernel_rfl) (fun _ _ _ h => h) (Or.inl ⟨by rfl, ?_⟩) hHeld ?_
    case refine_2 => (intro w hSw; (try dsimp only at hSw); (try (obtain ⟨s0, s1, s2, s3⟩ := hSw)); simp only [List.getElem_cons_zero, List.getElem_cons_succ]; go_simp <;> with_reducible rfl)
    simp only [List.getElem_cons_zero, List.getElem_cons_succ, Act.put, List.setIfInBounds_toArray, List.set_cons_zero, List.set_cons_succ]
    refine heldT_take 2 (v := ?_) (by simp) (by kernel_rfl) (by kernel_rfl) (by kernel_rfl) (by kernel_rfl) (fun _ _ _ h => h) (Or.inl ⟨by rfl, ?_⟩) hHeld ?_
    case refine_2 => (intro w hSw; (try dsimp only at hSw); (try (obtain ⟨s0, s1, s2, s3⟩ := hSw)); simp only [List.getElem_cons_zero, List.getElem_cons_succ]; go_simp <;> with_reducible rfl)
    simp only [List.getElem_cons_zero, List.getElem_cons_succ, Act.put, List.setIfInBounds_toArray, List.set_cons_zero, List.set_cons_succ]
    refine heldT_take 3 (v := ?_) (by simp) (by kernel_rfl) (by kernel_rfl) (by kernel_rfl) (by kernel_rfl) (fun _ _ _ h => h) (Or.inl ⟨by rfl, ?_⟩) hHeld ?_
    case refine_2 => (intro w hSw; (try dsimp only at hSw); (try (obtain ⟨s0, s1, s2, s3⟩ := hSw)); simp only [List.getElem_cons_zero, List.getElem_cons_succ]; go_simp <;> with_reducible rfl)
    simp only [List.getElem_cons_zero, List.getElem_cons_succ, Act.put, List.setIfInBounds_toArray, List.set_cons_zero, List.set_cons_succ]
    refine heldT_take 4 (v := ?_) (by simp) (by kernel_rfl) (by kernel_rfl) (by kernel_rfl) (by kernel_rfl) (fun _ _ _ h => h) (Or.inl ⟨by rfl, ?_⟩) hHeld ?_
    case refine_2 => (intro w hSw; (try dsimp only at hSw); (try (obtain ⟨s0, s1, s2, s3⟩ := hSw)); simp only [List.getElem_cons_zero, List.getElem_cons_succ]; go_simp <;> with_reducible rfl)
    simp only [List.getElem_cons_zero, List.getElem_cons_succ, Act.put, List.setIfInBounds_toArray, List.set_cons_zero, List.set_cons_succ]
    refine heldT_take 6 (v := ?_) (by simp) (by kernel_rfl) (by kernel_rfl) (by kernel_rfl) (by kernel_rfl) (fun _ _ _ h => h) (Or.inl ⟨by rfl, ?_⟩) hHeld ?_
    case refine_2 => (intro w hSw; (try dsimp only at hSw); (try (obtain ⟨s0, s1, s2, s3⟩ := hSw)); simp only [List.getElem_cons_zero, List.getElem_cons_succ]; go_simp <;> with_reducible rfl)
    simp only [List.getElem_cons_zero, List.getElem_cons_succ, Act.put, List.setIfInBounds_toArray, List.set_cons_zero, List.set_cons_succ]
    refine heldT_take 7 (v := ?_) (by simp) (by kernel_rfl) (by kernel_rfl) (by kernel_rfl) (by kernel_rfl) (fun _ _ _ h => h) (Or.inl ⟨by rfl, ?_⟩) hHeld ?_
    case refine_2 => (intro w hSw; (try dsimp only at hSw); (try (obtain ⟨s0, s1, s2, s3⟩ := hSw)); simp only [List.getElem_cons_zero, List.getElem_cons_succ]; go_simp <;> with_reducible rfl)
    simp only [List.getElem_cons_zero, List.getElem_cons_succ, Act.put, List.setIfInBounds_toArray, List.set_cons_zero, List.set_cons_succ]
    refine heldT_take 8 (v := ?_) (by simp) (by kernel_rfl) (by kernel_rfl) (by kernel_rfl) (by kernel_rfl) (fun _ _ _ h => h) (Or.inl ⟨by rfl, ?_⟩) hHeld ?_
    case refine_2 => (intro w hSw; (try dsimp only at hSw); (try (obtain ⟨s0, s1, s2, s3⟩ := hSw)); simp only [List.getElem_cons_zero, List.getElem_cons_succ]; go_simp <;> with_reducible rfl)
    simp only [List.getElem_cons_zero, List.getElem_cons_succ, Act.put, List.setIfInBounds_toArray, List.set_cons_zero, List.set_cons_succ]
    refine heldT_take 9 (v := ?_) (by simp) (by kernel_rfl) (by kernel_rfl) (by kernel_rfl) (by kernel_rfl) (fun _ _ _ h => h) (Or.inl ⟨by rfl, ?_⟩) hHeld ?_
    case refine_2 => (intro w hSw; (try dsimp only at hSw); (try (obtain ⟨s0, s1, s2, s3⟩ := hSw)); simp only [List.getElem_cons_zero, List.getElem_cons_succ]; go_simp <;> with_reducible rfl)
    simp only [List.getElem_cons_zero, List.getElem_cons_succ, Act.put, List.setIfInBounds_toArray, List.set_cons_zero, List.set_cons_succ]
    refine heldT_take 10 (v := ?_) (by simp) (by kernel_rfl) (by kernel_rfl) (by kernel_rfl) (by kernel_rfl) (fun _ _ _ h => h) (Or.inl ⟨by rfl, ?_⟩) hHeld ?_
    case refine_2 => (intro w hSw; (try dsimp only at hSw); (try (obtain ⟨s0, s1, s2, s3⟩ := hSw)); simp only [List.getElem_cons_zero, List.getElem_cons_succ]; go_simp <;> with_reducible rfl)
    simp only [List.getElem_cons_zero, List.getElem_cons_succ, Act.put, List.setIfInBounds_toArray, List.set_cons_zero, List.set_cons_succ]
    refine heldT_take 11 (v := ?_) (by simp) (by kernel_rfl) (by kernel_rfl) (by kernel_rfl) (by kernel_rfl) (fun _ _ _ h => h) (Or.inl ⟨by rfl, ?_⟩) hHeld ?_
    case refine_2 => (intro w hSw; (try dsimp only at hSw); (try (obtain ⟨s0, s1, s2, s3⟩ := hSw)); simp only [List.getElem_cons_zero, List.getElem_cons_succ]; go_simp <;> with_reducible rfl)
    simp only [List.getElem_cons_zero, List.getElem_cons_succ, Act.put, List.setIfInBounds_toArray, List.set_cons_zero, List.set_cons_succ]
    refine heldT_take 12 (v := ?_) (by simp) (by kernel_rfl) (by kernel_rfl) (by kernel_rfl) (by kernel_rfl) (fun _ _ _ h => h) (Or.inl ⟨by rfl, ?_⟩) hHeld ?_
    case refine_2 => (intro w hSw; (try dsimp only at hSw); (try (obtain ⟨s0, s1, s2, s3⟩ := hSw)); simp only [List.getElem_cons_zero, List.getElem_cons_succ]; go_simp <;> with_reducible rfl)
    simp only [List.getElem_cons_zero, List.getElem_cons_succ, Act.put, List.setIfInBounds_toArray, List.set_cons_zero, List.set_cons_succ]
    refine heldT_take 13 (v := ?_) (by simp) (by kernel_rfl) (by kernel_rfl) (by kernel_rfl) (by kernel_rfl) (fun _ _ _ h => h) (Or.inl ⟨by rfl, ?_⟩) hHeld ?_
    case refine_2 => (intro w hSw; (try dsimp only at hSw); (try (obtain ⟨s0, s1, s2, s3⟩ := hSw)); simp only [List.getElem_cons_zero, List.getElem_cons_succ]; go_simp <;> with_reducible rfl)
    simp only [List.getElem_cons_zero, List.getElem_cons_succ, Act.put, List.setIfInBounds_toArray, List.set_cons_zero, List.set_cons_succ]
    refine heldT_take 14 (v := ?_) (by simp) (by kernel_rfl) (by kernel_rfl) (by kernel_rfl) (by kernel_rfl) (fun _ _ _ h => h) (Or.inl ⟨by rfl, ?_⟩) hHeld ?_
    case refine_2 => (intro w hSw; (try dsimp only at hSw); (try (obtain ⟨s0, s1, s2, s3⟩ := hSw)); simp only [List.getElem_cons_zero, List.getElem_cons_succ]; go_simp <;> with_reducible rfl)
    simp only [List.getElem_cons_zero, List.getElem_cons_succ, Act.put, List.setIfInBounds_toArray, List.set_cons_zero, List.set_cons_succ]
    refine heldT_take 15 (v := ?_) (by simp) (by kernel_rfl) (by kernel_rfl) (by kernel_rfl) (by kernel_rfl) (fun _ _ _ h => h) (Or.inl ⟨by rfl, ?_⟩) hHeld ?_
    case refine_2 => (intro w hSw; (try dsimp only at hSw); (try (obtain ⟨s0, s1, s2, s3⟩ := hSw)); simp only [List.getElem_cons_zero, List.getElem_cons_succ]; go_simp <;> with_reducible rfl)
    simp only [List.getElem_cons_zero, List.getElem_cons_succ, Act.put, List.setIfInBounds_toArray, List.set_cons_zero, List.set_cons_succ]
    refine heldT_take 16 (v := ?_) (by simp) (by kernel_rfl) (by kernel_rfl) (by kernel_rfl) (by kernel_rfl) (fun _ _ _ h => h) (Or.inl ⟨by rfl, ?_⟩) hHeld ?_
    case refine_2 => (intro w hSw; (try dsimp only at hSw); (try (obtain ⟨s0, s1, s2, s3⟩ := hSw)); simp only [List.getElem_cons_zero, List.getElem_cons_succ]; go_simp <;> with_reducible rfl)
    simp only [List.getElem_cons_zero, List.getElem_cons_succ, Act.put, List.setIfInBounds_toArray, List.set_cons_zero, List.set_cons_succ]
    refine heldT_take 17 (v := ?_) (by simp) (by kernel_rfl) (by kernel_rfl) (by kernel_rfl) (by kernel_rfl) (fun _ _ _ h => h) (Or.inl ⟨by rfl, ?_⟩) hHeld ?_
    case refine_2 => (intro w hSw; (try dsimp only at hSw); (try (obtain ⟨s0, s1, s2, s3⟩ := hSw)); simp only [List.getElem_cons_zero, List.getElem_cons_succ]; go_simp <;> with_reducible rfl)
    simp only [List.getElem_cons_zero, List.getElem_cons_succ, Act.put, List.setIfInBounds_toArray, List.set_cons_zero, List.set_cons_succ]
    refine heldT_take 18 (v := ?_) (by simp) (by kernel_rfl) (by kernel_rfl) (by kernel_rfl) (by kernel_rfl) (fun _ _ _ h => h) (Or.inl ⟨by rfl, ?_⟩) hHeld ?_
    case refine_2 => (intro w hSw; (try dsimp only at hSw); (try (obtain ⟨s0, s1, s2, s3⟩ := hSw)); simp only [List.getElem_cons_zero, List.getElem_cons_succ]; go_simp <;> with_reducible rfl)
    simp only [List.getElem_cons_zero, List.getElem_cons_succ, Act.put, List.setIfInBounds_toArray, List.set_cons_zero, List.set_cons_succ]
    refine heldT_take 19 (v := ?_) (by simp) (by kernel_rfl) (by kernel_rfl) (by kernel_rfl) (by kernel_rfl) (fun _ _ _ h => h) (Or.inl ⟨by rfl, ?_⟩) hHeld ?_
    case refine_2 => (intro w hSw; (try dsimp only at hSw); (try (obtain ⟨s0, s1, s2, s3⟩ := hSw)); simp only [List.getElem_cons_zero, List.getElem_cons_succ]; go_simp <;> with_reducible rfl)
    simp only [List.getElem_cons_zero, List.getElem_cons_succ, Act.put, List.setIfInBounds_toArray, List.set_cons_zero, List.set_cons_succ]
    refine heldT_take 20 (v := ?_) (by simp) (by kernel_rfl) (by kernel_rfl) (by kernel_rfl) (by kernel_rfl) (fun _ _ _ h => h) (Or.inl ⟨by rfl, ?_⟩) hHeld ?_
    case refine_2 => (intro w hSw; (try dsimp only at hSw); (try (obtain ⟨s0, s1, s2, s3⟩ := hSw)); simp only [List.getElem_cons_zero, List.getElem_cons_succ]; go_simp <;> with_reducible rfl)
    simp only [List.getElem_cons_zero, List.getElem_cons_succ, Act.put, List.setIfInBounds_toArray, List.set_cons_zero, List.set_cons_succ]
    refine heldT_take 21 (v := ?_) (by simp) (by kernel_rfl) (by kernel_rfl) (by kernel_rfl) (by kernel_rfl) (fun _ _ _ h => h) (Or.inl ⟨by rfl, ?_⟩) hHeld ?_
    case refine_2 => (intro w hSw; (try dsimp only at hSw); (try (obtain ⟨s0, s1, s2, s3⟩ := hSw)); simp only [List.getElem_cons_zero, List.getElem_cons_succ]; go_simp <;> with_reducible rfl)
    simp only [List.getElem_cons_zero, List.getElem_cons_succ, Act.put, List.setIfInBounds_toArray, List.set_cons_zero, List.set_cons_succ]
    refine heldT_take 22 (v := ?_) (by simp) (by kernel_rfl) (by kernel_rfl) (by kernel_rfl) (by kernel_rfl) (fun _ _ _ h => h) (Or.inl ⟨by rfl, ?_⟩) hHeld ?_
    case refine_2 => (intro w hSw; (try dsimp only at hSw); (try (obtain ⟨s0, s1, s2, s3⟩ := hSw)); simp only [List.getElem_cons_zero, List.getElem_cons_succ]; go_simp <;> with_reducible rfl)
    simp only [List.getElem_cons_zero, List.getElem_cons_succ, Act.put, List.setIfInBounds_toArray, List.set_cons_zero, List.set_cons_succ]
    refine heldT_sole 5 (by simp) (by kernel_rfl) (fun K hK => ?_)
    simp only [List.getElem_cons_zero, List.getElem_cons_succ]
    go_simp
    have HN0 := Lib.hid (own_nothing W1.drew W1.drew.heap.size 5 (Nat.le_refl _))
    have a0 : (W1.drew.alloc (.cells #[] 5)).cell? ⟨g, 0, none⟩ = some (.slice (some ⟨b, 0, none⟩) es.length c) := (World.cell?_alloc_lt W1.drew _ ⟨g, 0, none⟩ hgl1).trans e0
    have a1 : (W1.drew.alloc (.cells #[] 5)).cell? ⟨b, k * 3 + 1, none⟩ = some (.slice Ax qb.length cx) := (World.cell?_alloc_lt W1.drew _ ⟨b, k * 3 + 1, none⟩ hbl1).trans e1
    have a2 : (W1.drew.alloc (.cells #[] 5)).cell? ⟨b, k * 3 + 2, none⟩ = some (.int .i64 ((s : Int))) := (World.cell?_alloc_lt W1.drew _ ⟨b, k * 3 + 2, none⟩ hbl1).trans e2
    refine hK.out _ _ ⟨a0, a1, a2, trivial⟩ (fun hHeld => ?_)
    clear hK K
    try simp only [Act.put, List.setIfInBounds_toArray, List.set_cons_zero, List.set_cons_succ]
    refine heldT_sole 23 (by simp) (by kernel_rfl) (fun K hK => ?_)
    simp only [List.getElem_cons_zero, List.getElem_cons_succ]
    rw [if_pos (by rfl)]
    refine wp_append_any (w := W1.drew.alloc (.cells #[] 5)) (.tmp 67) (.tmp 84) 27 rfl W1.heap.size 5 (.int .u8 0) 1 Tryz.underlying27 info_u8 rfl (.slice (some ⟨W1.heap.size, 0, none⟩) 0 0) [] rfl HN0.out W1.heap.size Ax s cx (cells (qb.take s)) rfl (by rw [cells_length, List.length_take]; omega) (Rd.alloc (w := W1.drew) (show Rd W1.drew _ _ _ from HVR1.out) (Nat.le_refl _) _) (bytes_oneCell _) (by unfold maxLen; simp; omega) (by simp; omega) (by simp) ?_
    intro v5 w5 hv5 hg5 _
    have hv5' : Bs w5 W1.heap.size v5 (qb.take s) := hv5
    have hb5 : Below W1.heap.size W1 w5 := (((Below.refl _ W1).drew).alloc (Nat.le_refl _) _).grown hg5 (by simp) (fun j hj => (Own.lt HN0.out j hj).1)
    have hlt5 : (qb.take s).length = s := by rw [List.length_take]; omega
    obtain ⟨A5, c5, e5, _⟩ := bs_shape hv5'
    rw [hlt5] at e5
    subst e5
    have b0 := hb5.cell (p := ⟨g, 0, none⟩) hgl1
    have b1 := hb5.cell (p := ⟨b, k * 3 + 1, none⟩) hbl1
    have b2 := hb5.cell (p := ⟨b, k * 3 + 2, none⟩) hbl1
    rw [e0] at b0
    rw [e1] at b1
    rw [e2] at b2
    have hD5 := HBT1.out.1.below hb5
    have hl1 : (es'.set k (qn, (⟨qv, ⟨qb, s⟩⟩ : RF))).length = es.length := by rw [List.length_set]; exact HLEN.out
    obtain ⟨A8, c8, h8, _, _, hat8⟩ := hD5.shape
    obtain ⟨b8, hb8, _, _, _, _, u1, _⟩ := hat8 k (by rw [hl1]; exact hlt)
    rw [hb8] at h8
    have hbb8 : b = b8 := by injection h8 with h8 _ _; injection h8 with h8; injection h8
    subst hbb8
    have hfin := RDiskAt.boot2 hl1 HBT1.out.1 hb5 (k := k) (by rw [hl1]; exact hlt) (v := .slice A5 s c5) (l := qb.take s) (by rw [List.getElem_set_self, hlt5]; exact Nat.le_refl _) (Got.of_own hv5')
    simp only [List.getElem_set_self, List.set_set] at hfin
    have HFIN := Lib.hid hfin
    have HB5 := Lib.hid hb5
    clear hfin hD5 hat8 h8 hb8 hv5 hv5' hg5 hb5 e0 e1 e2 a0 a1 a2
    refine hK.out _ _ ⟨b0, b1, b2, trivial⟩ (fun hHeld => ?_)
    clear hK K
    try simp only [Act.put, List.setIfInBounds_toArray, List.set_cons_zero, List.set_cons_succ]
    refine heldT_sole 24 (by simp) (by kernel_rfl) (fun K hK => ?_)
    simp only [List.getElem_cons_zero, List.getElem_cons_succ]
    go_simp
    refine hK.out _ _ ⟨b0, b1, b2, trivial⟩ (fun hHeld => ?_)
    clear hK K
    try simp only [Act.put, List.setIfInBounds_toArray, List.set_cons_zero, List.set_cons_succ]
    refine heldT_sole 25 (by simp) (by kernel_rfl) (fun K hK => ?_)
    simp only [List.getElem_cons_zero, List.getElem_cons_succ]
    go_simp
    refine hK.out _ _ ⟨b0, b1, b2, trivial⟩ (fun hHeld => ?_)
    clear hK K
    try simp only [Act.put, List.setIfInBounds_toArray, List.set_cons_zero, List.set_cons_succ]
    refine heldT_last (t := 26) (by simp) (by kernel_rfl) (by kernel_rfl) (fun K hK => ?_)
    simp only [List.getElem_cons_zero, List.getElem_cons_succ]
    go_simp
    refine hK.out _ _ ?_
    clear hK K hHeld b0 b1 b2 tf u1 hcut
    have HFR := Lib.hid ((HF.out.trans HBT1.out.2.1 HK.out).trans HFIN.out.2.1 (fun j hj => by
     rcases HBT1.out.2.2 j hj with h | h
     ·exact HK.out j h
     ·exact .inr (Nat.le_trans HF.out.size h)))
    have HFK : Hid (∀ j, RFoot g (.slice (some ⟨b, 0, none⟩) es.length c) (es'.set k (qn, ⟨.slice A5 s c5, ⟨qb.take s, s⟩⟩)) j → RFoot g (.slice (some ⟨b, 0, none⟩) es.length c) es j ∨ w.heap.size ≤ j) := Lib.hid (fun j hj => by
     rcases HFIN.out.2.2 j hj with h | h
     ·rcases HBT1.out.2.2 j h with h | h
      ·exact HK.out j h
      ·exact .inr (Nat.le_trans HF.out.size h)
     ·exact .inr (Nat.le_trans (Nat.le_trans HF.out.size HBT1.out.2.1.size) h))
    have HSEC := Lib.hid (HSTEP.out s (.slice A5 s c5) HSUM.out.symm)
    have HD9 := Lib.hid HFIN.out.1
    clear HFIN HBT1 HSTEP HBT
    go_wp2_with fail
    go_roundw
    case rel => exact ⟨k + 1, _, by omega, by go_num, HD9, HSEC, HFR, HFK⟩
    case measure => simp [intOf]; omega
   ·have hsum : (bootAt z k ⟨qb, qs⟩).safe = qs := by
     unfold bootAt
     show qs + _ = _
     rw [if_neg hkz]
     rfl
    have HSUM := Lib.hid hsum
    have hkzI : ¬ (k : Int) < (z.length : Int) := by omega
    clear hsum
    go_wp2_with fail
    go_quiet (fail)
    go_wp2_with fail
    refine wp_region_quiet_tail 17 (by kernel_rfl) (by kernel_rfl) ?_
    simp only [List.take_succ_cons, List.take_zero, List.drop_succ_cons, List.drop_zero]
    iterate 17 go_big_quiet_step (fail)
    refine wpQuiet_nil ?_
    rintro _ ⟨nt, rfl⟩
    go_wp2_with fail
    have hsl := hsf
    obtain ⟨s, hs⟩ : ∃ s, s = qs := ⟨_, rfl⟩
    try rw [show (qs : Int) + 0 = (qs : Int) by omega]
    rw [← hs] at hsl ⊢
    have HSUM := Lib.hid (HSUM.out.trans hs.symm)
    have HHS := Lib.hid hs
    clear hs
    obtain ⟨W1, hW1⟩ : ∃ W1, W1 = (wr.drewN (nq + nt)).setCell ⟨b, k * 3 + 2, none⟩ (.int .i64 ((s : Int))) := ⟨_, rfl⟩
    have hbt := HBT.out (s) hsl (nq + nt)
    try simp only at hbt
    rw [← hW1] at hbt ⊢
    have hn1 : (⟨b, k * 3 + 2, none⟩ : Addr) ≠ ⟨g, 0, none⟩ := by intro e; injection e with e; exact hgb e.symm
    have hn2 : (⟨b, k * 3 + 2, none⟩ : Addr) ≠ ⟨b, k * 3 + 1, none⟩ := by intro e; injection e with _ e; omega
    have e0 : W1.cell? ⟨g, 0, none⟩ = some (.slice (some ⟨b, 0, none⟩) es.length c) := by rw [hW1, World.cell?_setCell_other (h := hn1)]; exact d0
    have e1 : W1.cell? ⟨b, k * 3 + 1, none⟩ = some (.slice Ax qb.length cx) := by rw [hW1, World.cell?_setCell_other (h := hn2)]; exact q1
    have e2 : W1.cell? ⟨b, k * 3 + 2, none⟩ = some (.int .i64 ((s : Int))) := by rw [hW1]; exact World.cell?_setCell_same (w := wr.drewN (nq + nt)) (u := .int .i64 (qs : Int)) _ _ q2
    have tf : W1.frozen? ⟨b, k * 3 + 1, none⟩ = false := by rw [hW1, World.frozen?_setCell]; exact t1
    have hmem1 : (qn, (⟨qv, ⟨qb, s⟩⟩ : RF)) ∈ es'.set k (qn, ⟨qv, ⟨qb, s⟩⟩) := List.mem_set (by omega) _
    have hvr1 : Rd W1 W1.heap.size Ax (cells (qb.take (s))) := by
     obtain ⟨A8, c8, h8, _, _, r8⟩ := (hbt.1.got _ hmem1).shape
     simp only at h8 r8
     rw [HV.out] at h8
     injection h8 with h8 _ _
     rw [h8]
     unfold cells
     rw [List.map_take]
     exact Rd.take r8 _
    have hgl1 : g < W1.heap.size := hbt.1.glt
    have hbl1 : b < W1.heap.size := by rw [hW1]; simpa using hbl
    have hcut := fun W : World => run_cut (P := Tryz.prog) Tryz.underlying27 info_u8 Ax qb.length cx 0 (s) (by omega) (by omega) 0 ((s : Int)) rfl (by omega) W
    have hscx : s ≤ cx := by omega
    have HBT1 := Lib.hid hbt
    have HVR1 := Lib.hid hvr1
    clear hbt hvr1 hmem1 hW1 d0 q1 q2 t1 t2 hn1 hn2 hbl
    refine wp_region_heldT 26 (by kernel_rfl) (S := fun W => W.cell? ⟨g, 0, none⟩ = some (.slice (some ⟨b, 0, none⟩) es.length c) ∧ W.cell? ⟨b, k * 3 + 1, none⟩ = some (.slice Ax qb.length cx) ∧ W.cell? ⟨b, k * 3 + 2, none⟩ = some (.int .i64 ((s : Int))) ∧ True) ⟨e0, e1, e2, trivial⟩ (fun hHeld => ?_)
    refine heldT_take 0 (v := ?_) (by simp) (by kernel_rfl) (by kernel_rfl) (by kernel_rfl) (by kernel_rfl) (fun _ _ _ h => h) (Or.inl ⟨by rfl, ?_⟩) hHeld ?_
    case refine_2 => (intro w hSw; (try dsimp only at hSw); (try (obtain ⟨s0, s1, s2, s3⟩ := hSw)); simp only [List.getElem_cons_zero]; go_simp <;> with_reducible rfl)
    simp only [List.getElem_cons_zero, Act.put, List.setIfInBounds_toArray, List.set_cons_zero, List.set_cons_succ]
    refine heldT_take 1 (v := ?_) (by simp) (by kernel_rfl) (by kernel_rfl) (by kernel_rfl) (by kernel_rfl) (fun _ _ _ h => h) (Or.inl ⟨by rfl, ?_⟩) hHeld ?_
    case refine_2 => (intro w hSw; (try dsimp only at hSw); (try (obtain ⟨s0, s1, s2, s3⟩ := hSw)); simp only [List.getElem_cons_zero, List.getElem_cons_succ]; go_simp <;> with_reducible rfl)
    simp only [List.getElem_cons_zero, List.getElem_cons_succ, Act.put, List.setIfInBounds_toArray, List.set_cons_zero, List.set_cons_succ]
    refine heldT_take 2 (v := ?_) (by simp) (by kernel_rfl) (by kernel_rfl) (by kernel_rfl) (by kernel_rfl) (fun _ _ _ h => h) (Or.inl ⟨by rfl, ?_⟩) hHeld ?_
    case refine_2 => (intro w hSw; (try dsimp only at hSw); (try (obtain ⟨s0, s1, s2, s3⟩ := hSw)); simp only [List.getElem_cons_zero, List.getElem_cons_succ]; go_simp <;> with_reducible rfl)
    simp only [List.getElem_cons_zero, List.getElem_cons_succ, Act.put, List.setIfInBounds_toArray, List.set_cons_zero, List.set_cons_succ]
    refine heldT_take 3 (v := ?_) (by simp) (by kernel_rfl) (by kernel_rfl) (by kernel_rfl) (by kernel_rfl) (fun _ _ _ h => h) (Or.inl ⟨by rfl, ?_⟩) hHeld ?_
    case refine_2 => (intro w hSw; (try dsimp only at hSw); (try (obtain ⟨s0, s1, s2, s3⟩ := hSw)); simp only [List.getElem_cons_zero, List.getElem_cons_succ]; go_simp <;> with_reducible rfl)
    simp only [List.getElem_cons_zero, List.getElem_cons_succ, Act.put, List.setIfInBounds_toArray, List.set_cons_zero, List.set_cons_succ]
    refine heldT_take 4 (v := ?_) (by simp) (by kernel_rfl) (by kernel_rfl) (by kernel_rfl) (by kernel_rfl) (fun _ _ _ h => h) (Or.inl ⟨by rfl, ?_⟩) hHeld ?_
    case refine_2 => (intro w hSw; (try dsimp only at hSw); (try (obtain ⟨s0, s1, s2, s3⟩ := hSw)); simp only [List.getElem_cons_zero, List.getElem_cons_succ]; go_simp <;> with_reducible rfl)
    simp only [List.getElem_cons_zero, List.getElem_cons_succ, Act.put, List.setIfInBounds_toArray, List.set_cons_zero, List.set_cons_succ]
    refine heldT_take 6 (v := ?_) (by simp) (by kernel_rfl) (by kernel_rfl) (by kernel_rfl) (by kernel_rfl) (fun _ _ _ h => h) (Or.inl ⟨by rfl, ?_⟩) hHeld ?_
    case refine_2 => (intro w hSw; (try dsimp only at hSw); (try (obtain ⟨s0, s1, s2, s3⟩ := hSw)); simp only [List.getElem_cons_zero, List.getElem_cons_succ]; go_simp <;> with_reducible rfl)
    simp only [List.getElem_cons_zero, List.getElem_cons_succ, Act.put, List.setIfInBounds_toArray, List.set_cons_zero, List.set_cons_succ]
    refine heldT_take 7 (v := ?_) (by simp) (by kernel_rfl) (by kernel_rfl) (by kernel_rfl) (by kernel_rfl) (fun _ _ _ h => h) (Or.inl ⟨by rfl, ?_⟩) hHeld ?_
    case refine_2 => (intro w hSw; (try dsimp only at hSw); (try (obtain ⟨s0, s1, s2, s3⟩ := hSw)); simp only [List.getElem_cons_zero, List.getElem_cons_succ]; go_simp <;> with_reducible rfl)
    simp only [List.getElem_cons_zero, List.getElem_cons_succ, Act.put, List.setIfInBounds_toArray, List.set_cons_zero, List.set_cons_succ]
    refine heldT_take 8 (v := ?_) (by simp) (by kernel_rfl) (by kernel_rfl) (by kernel_rfl) (by kernel_rfl) (fun _ _ _ h => h) (Or.inl ⟨by rfl, ?_⟩) hHeld ?_
    case refine_2 => (intro w hSw; (try dsimp only at hSw); (try (obtain ⟨s0, s1, s2, s3⟩ := hSw)); simp only [List.getElem_cons_zero, List.getElem_cons_succ]; go_simp <;> with_reducible rfl)
    simp only [List.getElem_cons_zero, List.getElem_cons_succ, Act.put, List.setIfInBounds_toArray, List.set_cons_zero, List.set_cons_succ]
    refine heldT_take 9 (v := ?_) (by simp) (by kernel_rfl) (by kernel_rfl) (by kernel_rfl) (by kernel_rfl) (fun _ _ _ h => h) (Or.inl ⟨by rfl, ?_⟩) hHeld ?_
    case refine_2 => (intro w hSw; (try dsimp only at hSw); (try (obtain ⟨s0, s1, s2, s3⟩ := hSw)); simp only [List.getElem_cons_zero, List.getElem_cons_succ]; go_simp <;> with_reducible rfl)
    simp only [List.getElem_cons_zero, List.getElem_cons_succ, Act.put, List.setIfInBounds_toArray, List.set_cons_zero, List.set_cons_succ]
    refine heldT_take 10 (v := ?_) (by simp) (by kernel_rfl) (by kernel_rfl) (by kernel_rfl) (by kernel_rfl) (fun _ _ _ h => h) (Or.inl ⟨by rfl, ?_⟩) hHeld ?_
    case refine_2 => (intro w hSw; (try dsimp only at hSw); (try (obtain ⟨s0, s1, s2, s3⟩ := hSw)); simp only [List.getElem_cons_zero, List.getElem_cons_succ]; go_simp <;> with_reducible rfl)
    simp only [List.getElem_cons_zero, List.getElem_cons_succ, Act.put, List.setIfInBounds_toArray, List.set_cons_zero, List.set_cons_succ]
    refine heldT_take 11 (v := ?_) (by simp) (by kernel_rfl) (by kernel_rfl) (by kernel_rfl) (by kernel_rfl) (fun _ _ _ h => h) (Or.inl ⟨by rfl, ?_⟩) hHeld ?_
    case refine_2 => (intro w hSw; (try dsimp only at hSw); (try (obtain ⟨s0, s1, s2, s3⟩ := hSw)); simp only [List.getElem_cons_zero, List.getElem_cons_succ]; go_simp <;> with_reducible rfl)
    simp only [List.getElem_cons_zero, List.getElem_cons_succ, Act.put, List.setIfInBounds_toArray, List.set_cons_zero, List.set_cons_succ]
    refine heldT_take 12 (v := ?_) (by simp) (by kernel_rfl) (by kernel_rfl) (by kernel_rfl) (by kernel_rfl) (fun _ _ _ h => h) (Or.inl ⟨by rfl, ?_⟩) hHeld ?_
    case refine_2 => (intro w hSw; (try dsimp only at hSw); (try (obtain ⟨s0, s1, s2, s3⟩ := hSw)); simp only [List.getElem_cons_zero, List.getElem_cons_succ]; go_simp <;> with_reducible rfl)
    simp only [List.getElem_cons_zero, List.getElem_cons_succ, Act.put, List.setIfInBounds_toArray, List.set_cons_zero, List.set_cons_succ]
    refine heldT_take 13 (v := ?_) (by simp) (by kernel_rfl) (by kernel_rfl) (by kernel_rfl) (by kernel_rfl) (fun _ _ _ h => h) (Or.inl ⟨by rfl, ?_⟩) hHeld ?_
    case refine_2 => (intro w hSw; (try dsimp only at hSw); (try (obtain ⟨s0, s1, s2, s3⟩ := hSw)); simp only [List.getElem_cons_zero, List.getElem_cons_succ]; go_simp <;> with_reducible rfl)
    simp only [List.getElem_cons_zero, List.getElem_cons_succ, Act.put, List.setIfInBounds_toArray, List.set_cons_zero, List.set_cons_succ]
    refine heldT_take 14 (v := ?_) (by simp) (by kernel_rfl) (by kernel_rfl) (by kernel_rfl) (by kernel_rfl) (fun _ _ _ h => h) (Or.inl ⟨by rfl, ?_⟩) hHeld ?_
    case refine_2 => (intro w hSw; (try dsimp only at hSw); (try (obtain ⟨s0, s1, s2, s3⟩ := hSw)); simp only [List.getElem_cons_zero, List.getElem_cons_succ]; go_simp <;> with_reducible rfl)
    simp only [List.getElem_cons_zero, List.getElem_cons_succ, Act.put, List.setIfInBounds_toArray, List.set_cons_zero, List.set_cons_succ]
    refine heldT_take 15 (v := ?_) (by simp) (by kernel_rfl) (by kernel_rfl) (by kernel_rfl) (by kernel_rfl) (fun _ _ _ h => h) (Or.inl ⟨by rfl, ?_⟩) hHeld ?_
    case refine_2 => (intro w hSw; (try dsimp only at hSw); (try (obtain ⟨s0, s1, s2, s3⟩ := hSw)); simp only [List.getElem_cons_zero, List.getElem_cons_succ]; go_simp <;> with_reducible rfl)
    simp only [List.getElem_cons_zero, List.getElem_cons_succ, Act.put, List.setIfInBounds_toArray, List.set_cons_zero, List.set_cons_succ]
    refine heldT_take 16 (v := ?_) (by simp) (by kernel_rfl) (by kernel_rfl) (by kernel_rfl) (by kernel_rfl) (fun _ _ _ h => h) (Or.inl ⟨by rfl, ?_⟩) hHeld ?_
    case refine_2 => (intro w hSw; (try dsimp only at hSw); (try (obtain ⟨s0, s1, s2, s3⟩ := hSw)); simp only [List.getElem_cons_zero, List.getElem_cons_succ]; go_simp <;> with_reducible rfl)
    simp only [List.getElem_cons_zero, List.getElem_cons_succ, Act.put, List.setIfInBounds_toArray, List.set_cons_zero, List.set_cons_succ]
    refine heldT_take 17 (v := ?_) (by simp) (by kernel_rfl) (by kernel_rfl) (by kernel_rfl) (by kernel_rfl) (fun _ _ _ h => h) (Or.inl ⟨by rfl, ?_⟩) hHeld ?_
    case refine_2 => (intro w hSw; (try dsimp only at hSw); (try (obtain ⟨s0, s1, s2, s3⟩ := hSw)); simp only [List.getElem_cons_zero, List.getElem_cons_succ]; go_simp <;> with_reducible rfl)
    simp only [List.getElem_cons_zero, List.getElem_cons_succ, Act.put, List.setIfInBounds_toArray, List.set_cons_zero, List.set_cons_succ]
    refine heldT_take 18 (v := ?_) (by simp) (by kernel_rfl) (by kernel_rfl) (by kernel_rfl) (by kernel_rfl) (fun _ _ _ h => h) (Or.inl ⟨by rfl, ?_⟩) hHeld ?_
    case refine_2 => (intro w hSw; (try dsimp only at hSw); (try (obtain ⟨s0, s1, s2, s3⟩ := hSw)); simp only [List.getElem_cons_zero, List.getElem_cons_succ]; go_simp <;> with_reducible rfl)
    simp only [List.getElem_cons_zero, List.getElem_cons_succ, Act.put, List.setIfInBounds_toArray, List.set_cons_zero, List.set_cons_succ]
    refine heldT_take 19 (v := ?_) (by simp) (by kernel_rfl) (by kernel_rfl) (by kernel_rfl) (by kernel_rfl) (fun _ _ _ h => h) (Or.inl ⟨by rfl, ?_⟩) hHeld ?_
    case refine_2 => (intro w hSw; (try dsimp only at hSw); (try (obtain ⟨s0, s1, s2, s3⟩ := hSw)); simp only [List.getElem_cons_zero, List.getElem_cons_succ]; go_simp <;> with_reducible rfl)
    simp only [List.getElem_cons_zero, List.getElem_cons_succ, Act.put, List.setIfInBounds_toArray, List.set_cons_zero, List.set_cons_succ]
    refine heldT_take 20 (v := ?_) (by simp) (by kernel_rfl) (by kernel_rfl) (by kernel_rfl) (by kernel_rfl) (fun _ _ _ h => h) (Or.inl ⟨by rfl, ?_⟩) hHeld ?_
    case refine_2 => (intro w hSw; (try dsimp only at hSw); (try (obtain ⟨s0, s1, s2, s3⟩ := hSw)); simp only [List.getElem_cons_zero, List.getElem_cons_succ]; go_simp <;> with_reducible rfl)
    simp only [List.getElem_cons_zero, List.getElem_cons_succ, Act.put, List.setIfInBounds_toArray, List.set_cons_zero, List.set_cons_succ]
    refine heldT_take 21 (v := ?_) (by simp) (by kernel_rfl) (by kernel_rfl) (by kernel_rfl) (by kernel_rfl) (fun _ _ _ h => h) (Or.inl ⟨by rfl, ?_⟩) hHeld ?_
    case refine_2 => (intro w hSw; (try dsimp only at hSw); (try (obtain ⟨s0, s1, s2, s3⟩ := hSw)); simp only [List.getElem_cons_zero, List.getElem_cons_succ]; go_simp <;> with_reducible rfl)
    simp only [List.getElem_cons_zero, List.getElem_cons_succ, Act.put, List.setIfInBounds_toArray, List.set_cons_zero, List.set_cons_succ]
    refine heldT_take 22 (v := ?_) (by simp) (by kernel_rfl) (by kernel_rfl) (by kernel_rfl) (by kernel_rfl) (fun _ _ _ h => h) (Or.inl ⟨by rfl, ?_⟩) hHeld ?_
    case refine_2 => (intro w hSw; (try dsimp only at hSw); (try (obtain ⟨s0, s1, s2, s3⟩ := hSw)); simp only [List.getElem_cons_zero, List.getElem_cons_succ]; go_simp <;> with_reducible rfl)
    simp only [List.getElem_cons_zero, List.getElem_cons_succ, Act.put, List.setIfInBounds_toArray, List.set_cons_zero, List.set_cons_succ]
    refine heldT_sole 5 (by simp) (by kernel_rfl) (fun K hK => ?_)
    simp only [List.getElem_cons_zero, List.getElem_cons_succ]
    go_simp
    have HN0 := Lib.hid (own_nothing W1.drew W1.drew.heap.size 5 (Nat.le_refl _))
    have a0 : (W1.drew.alloc (.cells #[] 5)).cell? ⟨g, 0, none⟩ = some (.slice (some ⟨b, 0, none⟩) es.length c) := (World.cell?_alloc_lt W1.drew _ ⟨g, 0, none⟩ hgl1).trans e0
    have a1 : (W1.drew.alloc (.cells #[] 5)).cell? ⟨b, k * 3 + 1, none⟩ = some (.slice Ax qb.length cx) := (World.cell?_alloc_lt W1.drew _ ⟨b, k * 3 + 1, none⟩ hbl1).trans e1
    have a2 : (W1.drew.alloc (.cells #[] 5)).cell? ⟨b, k * 3 + 2, none⟩ = some (.int .i64 ((s : Int))) := (World.cell?_alloc_lt W1.drew _ ⟨b, k * 3 + 2, none⟩ hbl1).trans e2
    refine hK.out _ _ ⟨a0, a1, a2, trivial⟩ (fun hHeld => ?_)
    clear hK K
    try simp only [Act.put, List.setIfInBounds_toArray, List.set_cons_zero, List.set_cons_succ]
    refine heldT_sole 23 (by simp) (by kernel_rfl) (fun K hK => ?_)
    simp only [List.getElem_cons_zero, List.getElem_cons_succ]
    rw [if_pos (by rfl)]
    refine wp_append_any (w := W1.drew.alloc (.cells #[] 5)) (.tmp 67) (.tmp 84) 27 rfl W1.heap.size 5 (.int .u8 0) 1 Tryz.underlying27 info_u8 rfl (.slice (some ⟨W1.heap.size, 0, none⟩) 0 0) [] rfl HN0.out W1.heap.size Ax s cx (cells (qb.take s)) rfl (by rw [cells_length, List.length_take]; omega) (Rd.alloc (w := W1.drew) (show Rd W1.drew _ _ _ from HVR1.out) (Nat.le_refl _) _) (bytes_oneCell _) (by unfold maxLen; simp; omega) (by simp; omega) (by simp) ?_
    intro v5 w5 hv5 hg5 _
    have hv5' : Bs w5 W1.heap.size v5 (qb.take s) := hv5
    have hb5 : Below W1.heap.size W1 w5 := (((Below.refl _ W1).drew).alloc (Nat.le_refl _) _).grown hg5 (by simp) (fun j hj => (Own.lt HN0.out j hj).1)
    have hlt5 : (qb.take s).length = s := by rw [List.length_take]; omega
    obtain ⟨A5, c5, e5, _⟩ := bs_shape hv5'
    rw [hlt5] at e5
    subst e5
    have b0 := hb5.cell (p := ⟨g, 0, none⟩) hgl1
    have b1 := hb5.cell (p := ⟨b, k * 3 + 1, none⟩) hbl1
    have b2 := hb5.cell (p := ⟨b, k * 3 + 2, none⟩) hbl1
    rw [e0] at b0
    rw [e1] at b1
    rw [e2] at b2
    have hD5 := HBT1.out.1.below hb5
    have hl1 : (es'.set k (qn, (⟨qv, ⟨qb, s⟩⟩ : RF))).length = es.length := by rw [List.length_set]; exact HLEN.out
    obtain ⟨A8, c8, h8, _, _, hat8⟩ := hD5.shape
    obtain ⟨b8, hb8, _, _, _, _, u1, _⟩ := hat8 k (by rw [hl1]; exact hlt)
    rw [hb8] at h8
    have hbb8 : b = b8 := by injection h8 with h8 _ _; injection h8 with h8; injection h8
    subst hbb8
    have hfin := RDiskAt.boot2 hl1 HBT1.out.1 hb5 (k := k) (by rw [hl1]; exact hlt) (v := .slice A5 s c5) (l := qb.take s) (by rw [List.getElem_set_self, hlt5]; exact Nat.le_refl _) (Got.of_own hv5')
    simp only [List.getElem_set_self, List.set_set] at hfin
    have HFIN := Lib.hid hfin
    have HB5 := Lib.hid hb5
    clear hfin hD5 hat8 h8 hb8 hv5 hv5' hg5 hb5 e0 e1 e2 a0 a1 a2
    refine hK.out _ _ ⟨b0, b1, b2, trivial⟩ (fun hHeld => ?_)
    clear hK K
    try simp only [Act.put, List.setIfInBounds_toArray, List.set_cons_zero, List.set_cons_succ]
    refine heldT_sole 24 (by simp) (by kernel_rfl) (fun K hK => ?_)
    simp only [List.getElem_cons_zero, List.getElem_cons_succ]
    go_simp
    refine hK.out _ _ ⟨b0, b1, b2, trivial⟩ (fun hHeld => ?_)
    clear hK K
    try simp only [Act.put, List.setIfInBounds_toArray, List.set_cons_zero, List.set_cons_succ]
    refine heldT_sole 25 (by simp) (by kernel_rfl) (fun K hK => ?_)
    simp only [List.getElem_cons_zero, List.getElem_cons_succ]
    go_simp
    refine hK.out _ _ ⟨b0, b1, b2, trivial⟩ (fun hHeld => ?_)
    clear hK K
    try simp only [Act.put, List.setIfInBounds_toArray, List.set_cons_zero, List.set_cons_succ]
    refine heldT_last (t := 26) (by simp) (by kernel_rfl) (by kernel_rfl) (fun K hK => ?_)
    simp only [List.getElem_cons_zero, List.getElem_cons_succ]
    go_simp
    refine hK.out _ _ ?_
    clear hK K hHeld b0 b1 b2 tf u1 hcut
    have HFR := Lib.hid ((HF.out.trans HBT1.out.2.1 HK.out).trans HFIN.out.2.1 (fun j hj => by
     rcases HBT1.out.2.2 j hj with h | h
     ·exact HK.out j h
     ·exact .inr (Nat.le_trans HF.out.size h)))
    have HFK : Hid (∀ j, RFoot g (.slice (some ⟨b, 0, none⟩) es.length c) (es'.set k (qn, ⟨.slice A5 s c5, ⟨qb.take s, s⟩⟩)) j → RFoot g (.slice (some ⟨b, 0, none⟩) es.length c) es j ∨ w.heap.size ≤ j) := Lib.hid (fun j hj => by
     rcases HFIN.out.2.2 j hj with h | h
     ·rcases HBT1.out.2.2 j h with h | h
      ·exact HK.out j h
      ·exact .inr (Nat.le_trans HF.out.size h)
     ·exact .inr (Nat.le_trans (Nat.le_trans HF.out.size HBT1.out.2.1.size) h))
    have HSEC := Lib.hid (HSTEP.out s (.slice A5 s c5) HSUM.out.symm)
    have HD9 := Lib.hid HFIN.out.1
    clear HFIN HBT1 HSTEP HBT
    go_wp2_with fail
    go_roundw
    case rel => exact ⟨k + 1, _, by omega, by go_num, HD9, HSEC, HFR, HFK⟩
    case measure => simp [intOf]; omega
  ·have hke : k = es.length := by omega
   have hF2 : bootK z k (sec RF.f es) = ((rkOf p room es).boot z).fs := by
    rw [hke]
    show _ = bootK z (sec RF.f es).length (sec RF.f es)
    rw [sec_length]
   have hg1 := grown_then (grown_setCell wr g 2 (.bool false)) (grown_setCell (wr.setCell ⟨g, 2, none⟩ (.bool false)) g 3 (.bool false)) (.inl rfl)
   have HD2 := Lib.hid (HD.out.power (p' := ⟨false, false, 0, 0⟩) hg1 (x := x1) (y := y1) (Blk.set_ (Blk.set_ hb1 2 _) 3 _) ⟨fun h => (by cases h), hxy1.2⟩ (fun h => by cases h))
   have HFR := Lib.hid (HF.out.trans (Fr.of_grown (mine := RFoot g (.slice AL es.length c) es') hg1 (fun k e => by injection e with e; exact .inl e.symm)) HK.out)
   have HS2 := Lib.hid (HS.out.trans hF2)
   clear hF2 hb1 hxy1 hg1 hlen
   go_wp2_with fail
   go_end0
   exact ⟨⟨_, rfl⟩, _, _, HD2.out, HS2.out, HFR.out, HK.out⟩
end
end Go.Proofs.YteehkcpokgeipaaGreatDoor
set_option linter.unusedVariables false
set_option linter.unusedSimpArgs false
namespace Go.Proofs.YteehkcpokgeipaaGreatDoor
open Go.RowKit Go.Maps Go.Sort Oct
structure FRd (w : World) (A : Option Addr) (es : List (Nm × RF)) : Prop where
 at_ : ∀ k, (hk : k < es.length) → ∃ b, A = some ⟨b, 0, none⟩ ∧ b < w.heap.size ∧ w.cell? ⟨b, k * 3, none⟩ = some (.string (str es[k].1)) ∧ w.cell? ⟨b, k * 3 + 1, none⟩ = some es[k].2.v ∧ w.cell? ⟨b, k * 3 + 2, none⟩ = some (.int .i64 es[k].2.f.safe)
 bytes : ∀ q ∈ es, ∃ Ax cx, q.2.v = .slice Ax q.2.f.b.length cx ∧ Rd w w.heap.size Ax (cells q.2.f.b)
theorem FRd.below {w w' : World} {A : Option Addr} {es : List (Nm × RF)} (h : FRd w A es) (hb : Below w.heap.size w w') : FRd w' A es := by
 refine ⟨fun k hk => ?_, fun q hq => ?_⟩
 ·obtain ⟨b, h1, h2, h3, h4, h5⟩ := h.at_ k hk
  have := hb.size
  exact ⟨b, h1, by omega, (hb.cell (p := ⟨b, k * 3, none⟩) h2).trans h3, (hb.cell (p := ⟨b, k * 3 + 1, none⟩) h2).trans h4, (hb.cell (p := ⟨b, k * 3 + 2, none⟩) h2).trans h5⟩
 ·obtain ⟨Ax, cx, h1, h2⟩ := h.bytes q hq
  exact ⟨Ax, cx, h1, (h2.below hb).more hb.size⟩
theorem RDiskAt.frd {w : World} {base g : Nat} {p : PWD} {room : Int} {A : Option Addr} {n c : Nat} {es : List (Nm × RF)} (h : RDiskAt w base g p room (.slice A n c) es) : n = es.length ∧ FRd w A es := by
 obtain ⟨A', c', hv, _, _, hat⟩ := h.shape
 injection hv with h1 h2 h3
 subst h1 h2
 refine ⟨rfl, fun k hk => ?_, fun q hq => ?_⟩
 ·obtain ⟨b, h1, h2, h3, h4, h5, _⟩ := hat k hk
  exact ⟨b, h1, h2, h3, h4, h5⟩
 ·obtain ⟨Ax, cx, h1, _, _, h2⟩ := (h.got q hq).shape
  exact ⟨Ax, cx, h1, h2⟩
set_option maxHeartbeats 2000000 in
set_option maxRecDepth 100000 in
theorem rsame_any (A B : Option Addr) (es es2 : List (Nm × RF)) (c d : Nat) (w : World) (ha : FRd w A es) (hb : FRd w B es2) (he : sec RF.f es = sec RF.f es2) (hl : es.length ≤ 140737488351232) (hfe : ∀ q ∈ es, q.2.f.b.length ≤ 140737488351232) :
  Calls Tryz.prog 45 #[.slice A es.length c, .slice B es2.length d] w fun e w' => e = .returned (.bool true) ∧ Below w.heap.size w w' := by
 have hlen : es2.length = es.length := by have := congrArg List.length he; simpa [sec] using this.symm
 rw [hlen]
 have HA := Lib.hid ha
 have HB := Lib.hid hb
 have HE := Lib.hid he
 have HLEN := Lib.hid hlen
 have HFE := Lib.hid hfe
 clear ha hb he hlen hfe
 go_enter Tryz.func45, Tryz.ntmps45
 go_wp2_with fail
 go_loopw [5] (fun n wr => ∃ k : Nat, k ≤ es.length ∧ n = .int .i64 k ∧ Hid (Below w.heap.size w wr)) (fun n _ => es.length - (intOf n).toNat)
 case atStart => exact ⟨0, by omega, rfl, Lib.hid (Below.refl _ _)⟩
 case round =>
  obtain ⟨k, hk, rfl, hb⟩ := hrel
  by_cases hlt : k < es.length
  ·have hlt2 : k < es2.length := by rw [HLEN.out]; exact hlt
   obtain ⟨g, rfl, ag, a0, a1, a2⟩ := (HA.out.below hb.out).at_ k hlt
   obtain ⟨f, rfl, bg, b0, b1, b2⟩ := (HB.out.below hb.out).at_ k hlt2
   obtain ⟨Ax, cx, hv1, hr1⟩ := (HA.out.below hb.out).bytes _ (List.getElem_mem hlt)
   obtain ⟨Bx, dx, hv2, hr2⟩ := (HB.out.below hb.out).bytes _ (List.getElem_mem hlt2)
   have hfl := HFE.out _ (List.getElem_mem hlt)
   have hek : (es[k].1, es[k].2.f) = (es2[k].1, es2[k].2.f) := by
    have h1 : (sec RF.f es)[k]'(by rw [sec_length]; exact hlt) = (es[k].1, es[k].2.f) := by simp [sec]
    have h2 : (sec RF.f es2)[k]'(by rw [sec_length]; exact hlt2) = (es2[k].1, es2[k].2.f) := by simp [sec]
    rw [← h1, ← h2]
    exact List.getElem_of_eq HE.out _
   rw [hv1] at a1
   rw [hv2] at b1
   injection hek with e1 e2
   rw [← e1] at b0
   rw [← e2] at b1 b2 hr2
   generalize es[k].1 = nm at a0 b0
   generalize es[k].2.f = F at a1 a2 b1 b2 hr1 hr2 hfl
   obtain ⟨fb, fs⟩ := F
   simp only at a1 a2 b1 b2 hr1 hr2 hfl
   have q1 := fun n => str_of cx (hr1.drewN n)
   have q2 := fun n => str_of dx (hr2.drewN n)
   have hltI : (k : Int) < es.length := by omega
   clear HA HB hr1 hr2 hv1 hv2 e1 e2 hlt2
   go_wp2_with fail
   go_quiet (fail)
   go_wp2_with fail
   go_roundw
   case rel => exact ⟨k + 1, by omega, by go_num, Lib.hid (below_drewN hb.out _)⟩
   case measure => simp [intOf]; omega
  ·clear HA HB
   go_wp2_with fail
   go_ret
   exact ⟨rfl, hb.out⟩
end Go.Proofs.YteehkcpokgeipaaGreatDoor
