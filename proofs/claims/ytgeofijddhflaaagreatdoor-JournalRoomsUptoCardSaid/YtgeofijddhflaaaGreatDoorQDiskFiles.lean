/- The program's disk: Files. Condition: the disk is a call's own. -/
import Derived.Test.YtgeofijddhflaaaGreatDoorQDiskCut
import Derived.Test.YtgeofijddhflaaaGreatDoorQDiskNames
import Derived.Test.YtgeofijddhflaaaGreatDoorQDiskApp
import Derived.Test.YtgeofijddhflaaaGreatDoorQRDiskSame
set_option linter.unusedVariables false
set_option linter.unusedSimpArgs false
namespace Go.Proofs.YtgeofijddhflaaaGreatDoor
open Go.RowKit Go.Maps Go.Sort Oct
section
variable {w w1 w2 wr w' : World} {base g m : Nat} {p p' : PWD} {room : Int} {es es' : List (Nm × FE)}
theorem asGet_at {α : Type} {l : List (Nm × α)} (hr : Rising l) {k : Nat} (hk : k < l.length) : asGet l[k].1 l = some l[k].2 := by
 induction l generalizing k with
 | nil => simp at hk
 | cons y r ih =>
  have h1 := List.pairwise_cons.1 hr
  cases k with
  | zero => simp [asGet]
  | succ k =>
   have hk' : k < r.length := by simpa using hk
   have hne : ¬ (y.1 == r[k].1) = true := fun e => by
    have e' : y.1 = r[k].1 := by simpa using e
    have := h1.1 _ (List.getElem_mem hk')
    rw [e', show bytesBefore r[k].1 r[k].1 = false from WideAt.bytes_irrefl _] at this
    cases this
   have := ih h1.2 hk'
   unfold asGet at this ⊢
   have hf : (y.1 == r[k].1) = false := by simpa using hne
   simp only [List.getElem_cons_succ, List.find?_cons, hf]
   exact this
theorem DiskAt.boot1 (h : DiskAt wr base g m p room es) {n : Nm} {fe : FE} (hn : asGet n es = some fe) (s : Nat) (hs : s ≤ fe.f.b.length) (nt : Nat) :
  DiskAt ((wr.drewN nt).setCell ⟨fe.blk, 1, none⟩ (.int .i64 s)) base g m p room (asPut n ⟨fe.blk, fe.v, ⟨fe.f.b, s⟩⟩ es) ∧ Fr (DFoot g m es) wr ((wr.drewN nt).setCell ⟨fe.blk, 1, none⟩ (.int .i64 s)) ∧ (∀ k, DFoot g m (asPut n ⟨fe.blk, fe.v, ⟨fe.f.b, s⟩⟩ es) k → DFoot g m es k ∨ wr.heap.size ≤ k) := by
 have hmem := asGet_some hn
 have hK := h.file _ hmem
 have hG := h.got _ hmem
 simp only at hK hG
 have hgr := grown_setCell (wr.drewN nt) fe.blk 1 (.int .i64 (s : Int))
 have hne : ∀ k, k ≠ fe.blk → ((wr.drewN nt).setCell ⟨fe.blk, 1, none⟩ (.int .i64 (s : Int))).heap[k]? = wr.heap[k]? := fun k hk => Below.heap_setCell (wr.drewN nt) ⟨fe.blk, 1, none⟩ _ k (by simpa using hk)
 have hg2 : Got ((wr.drewN nt).setCell ⟨fe.blk, 1, none⟩ (.int .i64 (s : Int))) base fe.v fe.f.b := hG.kept (fun i hi => hne i (fun e => got_blk_ne hG hK (by decide) (by rw [hi, e]))) (by simp)
 refine ⟨h.file_set hn fe.v ⟨fe.f.b, s⟩ (by simp) (Blk.set_ (hK.drewN nt) 1 _) hg2 hs (fun i hi => .inl hi) (fun i hi h1 _ => hne i h1), ?_, fun k hk => ?_⟩
 ·exact ((Fr.refl (DFoot g m es) wr).drewN_ nt).trans (Fr.of_grown (mine := fun k => k = fe.blk) hgr (fun k e => by injection e with e; exact e.symm)) (fun j hj => .inl (by rw [hj]; exact foot_file hn))
 ·exact foot_put hk (fun e => .inl (by have e' : fe.blk = k := e; rw [← e']; exact foot_file hn)) (fun e => .inl (foot_row hn e))
theorem DiskAt.boot2 (h : DiskAt wr base g m p room es) (hb : Below wr.heap.size wr w2) {n : Nm} {fe : FE} (hn : asGet n es = some fe) {v : Value} {l : List UInt8} (hs : fe.f.safe ≤ l.length) (hg : Got w2 wr.heap.size v l) :
  DiskAt (w2.setCell ⟨fe.blk, 0, none⟩ v) base g m p room (asPut n ⟨fe.blk, v, ⟨l, fe.f.safe⟩⟩ es) ∧ Fr (DFoot g m es) wr (w2.setCell ⟨fe.blk, 0, none⟩ v) ∧ (∀ k, DFoot g m (asPut n ⟨fe.blk, v, ⟨l, fe.f.safe⟩⟩ es) k → DFoot g m es k ∨ wr.heap.size ≤ k) := by
 have hmem := asGet_some hn
 have h2 := h.below hb
 have hK := h2.file _ hmem
 simp only at hK
 have hbw : base ≤ wr.heap.size := by have := h.low.1; have := h.blk.lt; omega
 have hgr := grown_setCell w2 fe.blk 0 v
 have hne : ∀ k, k ≠ fe.blk → (w2.setCell ⟨fe.blk, 0, none⟩ v).heap[k]? = w2.heap[k]? := fun k hk => Below.heap_setCell w2 ⟨fe.blk, 0, none⟩ _ k (by simpa using hk)
 have hlt : fe.blk < wr.heap.size := (h.file _ hmem).lt
 have hg2 : Got (w2.setCell ⟨fe.blk, 0, none⟩ v) base v l := (hg.mono hbw).kept (fun i hi => hne i (fun e => by have := hg.row.base i hi; omega)) (by simp)
 refine ⟨h.file_set hn v ⟨l, fe.f.safe⟩ (by simp; exact hb.size) (Blk.set_ hK 0 _) hg2 hs (fun i hi => .inr (hg.row.base i hi)) (fun i hi h1 _ => (hne i h1).trans (hb.block i hi)), ?_, fun k hk => ?_⟩
 ·exact (Fr.of_below (DFoot g m es) hb).trans (Fr.of_grown (mine := fun k => k = fe.blk) hgr (fun k e => by injection e with e; exact e.symm)) (fun j hj => .inl (by rw [hj]; exact foot_file hn))
 ·exact foot_put hk (fun e => .inl (by have e' : fe.blk = k := e; rw [← e']; exact foot_file hn)) (fun e => .inr (hg.row.base k e))
set_option maxHeartbeats 8000000 in
set_option maxRecDepth 100000 in
theorem dboot_any (h : DiskAt w base g m p room es) (A : Option Addr) (z : List Int) (cz : Nat) (hz : Rd w base A (z.map (Value.int .i64))) (hzb : ∀ n ∈ z, -9223372036854775808 ≤ n ∧ n ≤ 9223372036854775807) (hzl : z.length ≤ 140737488351232) (hl : es.length ≤ 549755813888) (hfe : ∀ q ∈ es, q.2.f.b.length ≤ 549755813888) (hnm : ∀ q ∈ es, q.1.length ≤ 140737488351232) :
  Calls Tryz.prog 22 #[.pointer (some ⟨g, 0, none⟩), .slice A z.length cz] w fun e w' => (∃ v, e = .returned v) ∧ DiskTo w base g m es ((dkOf p room es).boot z) w' := by
 have HNM := Lib.hid (names_any h (by omega))
 have H := Lib.hid h
 have HZ := Lib.hid hz
 have HZB := Lib.hid hzb
 have HFE := Lib.hid hfe
 have HNL := Lib.hid hnm
 have hbw : base ≤ w.heap.size := by have := h.low.1; have := h.blk.lt; omega
 clear h hz hzb hfe hnm
 go_enter Tryz.func22, Tryz.ntmps22
 go_wp2_with fail
 refine HNM.out.mono ?_
 rintro e w1 ⟨vn, rfl, hvn, hb1⟩
 obtain ⟨An, cn, rfl, _, _, hrn⟩ := hvn.shape
 have hnlo := fun k hk => (hvn.lt k hk)
 rw [List.length_map]
 have HN := Lib.hid hrn
 have HNO := Lib.hid hnlo
 have HB1 := Lib.hid hb1
 have hs1 := hb1.size
 clear hvn hrn hnlo hb1 HNM
 go_wp2_with fail
 go_loopw [10] (fun i wr => ∃ (k : Nat) (es' : List (Nm × FE)), k ≤ es.length ∧ i = .int .i64 k ∧ Hid (DiskAt wr base g m p room es') ∧ Hid (sec FE.f es' = bootK z k (sec FE.f es)) ∧ Hid (Fr (DFoot g m es) w1 wr) ∧ Hid (∀ j, DFoot g m es' j → DFoot g m es j ∨ w1.heap.size ≤ j)) (fun i _ => es.length - (intOf i).toNat)
 case atStart => exact ⟨0, es, by omega, rfl, Lib.hid (H.out.below HB1.out), Lib.hid (bootK_zero _ _).symm, Lib.hid (Fr.refl _ _), Lib.hid (fun j hj => .inl hj)⟩
 case round =>
  obtain ⟨k, es', hk, rfl, HD, HS, HF, HK⟩ := hrel
  have hlen : es'.length = es.length := by have := congrArg List.length HS.out; simpa [bootK_length, sec] using this
  obtain ⟨⟨d0, d1, d2, d3, d4, d5⟩, f0, f1, f2, f3⟩ := blk6_at HD.out.blk
  by_cases hlt : k < es.length
  ·have hk' : k < es'.length := by omega
   have hek : (es'[k].1, es'[k].2.f) = ((sec FE.f es)[k]'(by rw [sec_length]; exact hlt)) := by
    have h1 := bootK_get z (fs := sec FE.f es) (k := k) (by rw [sec_length]; exact hlt) (by rw [bootK_length, sec_length]; exact hlt)
    rw [← h1]
    have h2 : (sec FE.f es')[k]'(by rw [sec_length]; exact hk') = (es'[k].1, es'[k].2.f) := by simp [sec]
    rw [← h2]
    exact List.getElem_of_eq HS.out _
   have hse : ((sec FE.f es)[k]'(by rw [sec_length]; exact hlt)) = (es[k].1, es[k].2.f) := by simp [sec]
   have hnk : es'[k].1 = es[k].1 := by rw [hse] at hek; injection hek
   have hfk : es'[k].2.f = es[k].2.f := by rw [hse] at hek; injection hek
   have hfl : es'[k].2.f.b.length ≤ 549755813888 := by rw [hfk]; exact HFE.out _ (List.getElem_mem hlt)
   have hnl : es'[k].1.length ≤ 140737488351232 := by rw [hnk]; exact HNL.out _ (List.getElem_mem hlt)
   have hget := asGet_at HD.out.rising hk'
   have hm : es'[k] ∈ es' := List.getElem_mem hk'
   have hKF := HD.out.file _ hm
   obtain ⟨Ax, cx, hv, hvl, hvc, hvr⟩ := (HD.out.got _ hm).shape
   have hsf := HD.out.safe _ hm
   obtain ⟨adn, hAn, hadn, hcn⟩ := rd_at (f := fun q : Nm × FE => Value.string (str q.1)) HN.out hlt
   have hcn' : wr.cell? (adn.add k) = some (.string (str es'[k].1)) := by
    rw [hnk]
    refine (World.cell?_of_block (w := w1) ?_).trans hcn
    rw [block_of_add]
    refine HF.out.block adn.block hadn (fun hm => ?_)
    have h1 := (H.out.lt _ hm).2
    have h2 := (HNO.out adn.block (by rw [hAn]; rfl)).1
    omega
   have hl := HD.out.map.get Tryz.underlying9 Tryz.underlying59 (zero_ptr wr) (str es'[k].1) (by rw [str_size]; unfold maxLen; omega)
   rw [str_data, asGet_sec, hget] at hl
   have hl' : (Instr.lookup 59 (.map (some m)) (.string (str es'[k].1)) false).run Tryz.prog wr = .ok (.pointer (some ⟨es'[k].2.blk, 0, none⟩)) wr := hl
   have hB := bootAt_safe z k es'[k].2.f hsf
   have HFRz : Hid (∀ ad, A = some ad → ad.block < base → wr.heap[ad.block]? = w.heap[ad.block]?) := Lib.hid (fun ad e hlo => (HF.out.block ad.block (by omega) (fun hm => by have := (H.out.lt _ hm).1; omega)).trans (HB1.out.block ad.block (by omega)))
   have hrise := HD.out.rising
   have HSTEP : Hid (∀ s v, s = (bootAt z k es'[k].2.f).safe → sec FE.f (asPut es'[k].1 ⟨es'[k].2.blk, v, ⟨es'[k].2.f.b.take s, s⟩⟩ es') = bootK z (k + 1) (sec FE.f es)) := Lib.hid (fun s v hs => by
    rw [asPut_set hrise hk', sec_set, HS.out, ← bootK_step z (by rw [sec_length]; exact hlt), ← hek]
    show _ = (bootK z k (sec FE.f es)).set k (es'[k].1, bootAt z k es'[k].2.f)
    rw [hs]
    rfl)
   obtain ⟨q, hq⟩ : ∃ q, q = es'[k] := ⟨_, rfl⟩
   rw [← hq] at hget hfl hnl hKF hv hvl hvr hsf hcn' hl' hB HSTEP
   have e0 : wr.cell? ⟨q.2.blk, 0, none⟩ = some (.slice Ax q.2.f.b.length cx) := by rw [← hv]; exact hKF.cell 0
   have e1 : wr.cell? ⟨q.2.blk, 1, none⟩ = some (.int .i64 q.2.f.safe) := hKF.cell 1
   have u0 : wr.frozen? ⟨q.2.blk, 0, none⟩ = false := hKF.frozen 0
   have u1 : wr.frozen? ⟨q.2.blk, 1, none⟩ = false := hKF.frozen 1
   have hblt : q.2.blk < wr.heap.size := hKF.lt
   have HQ := Lib.hid hget
   have HV := Lib.hid hv
   have HB := Lib.hid hB
   have HLEN := Lib.hid hlen
   have hkL : (k : Int) < (es.length : Int) := by omega
   obtain ⟨qn, blk, qv, qb, qs⟩ := q
   simp only at e0 e1 u0 u1 hblt hvl hsf hfl hcn' hl'
   subst hAn
   clear hek hse hnk hfk hget hm hKF hv hvr hcn hl hB hrise hq hlen hadn d0 d1 d2 d3 d4 f0 f1 f2 f3
   by_cases hkz : k < z.length
   ·obtain ⟨nn, hnn⟩ : ∃ nn : Nat, z.getD k 0 % ((qb.length : Int) - qs + 1) = (nn : Int) := ⟨(z.getD k 0 % ((qb.length : Int) - qs + 1)).toNat, by have := Int.emod_nonneg (z.getD k 0) (show ((qb.length : Int) - qs + 1) ≠ 0 by omega); omega⟩
    have hsum : (bootAt z k ⟨qb, qs⟩).safe = qs + nn := by
     unfold bootAt
     show qs + _ = _
     rw [if_pos hkz, hnn]
     rfl
    have hsl : qs + nn ≤ qb.length := by have := HB.out.1; simp only at this; rw [hsum] at this; exact this
    obtain ⟨adz, hA, hadz, hcz⟩ := rd_at HZ.out hkz
    have hcz' : wr.cell? (adz.add k) = some (.int .i64 (z.getD k 0)) := by
     rw [show z.getD k 0 = z[k] by simp [List.getD, hkz]]
     exact (World.cell?_of_block (w := w) (by rw [block_of_add]; exact HFRz.out adz hA hadz)).trans hcz
    have hzb := HZB.out _ (List.getElem_mem hkz)
    rw [show z[k] = z.getD k 0 by simp [List.getD, hkz]] at hzb
    have HMO := fun W : World => Lib.hid (dmod_any (z.getD k 0) ((qb.length : Int) - qs + 1) hzb (by omega) W)
    rw [hnn] at HMO
    obtain ⟨zk, hzk⟩ : ∃ zk, zk = z.getD k 0 := ⟨_, rfl⟩
    rw [← hzk] at hcz' hzb HMO
    have hkzI : (k : Int) < (z.length : Int) := by omega
    have w1' : IntKind.i64.wrap ((qb.length : Int) - (qs : Int)) = (qb.length : Int) - qs := IntWalk.i64_in _ (by omega)
    have w2' : IntKind.i64.wrap ((qb.length : Int) - (qs : Int) + 1) = (qb.length : Int) - qs + 1 := IntWalk.i64_in _ (by omega)
    have w3' : IntKind.i64.wrap ((qs : Int) + (nn : Int)) = (qs : Int) + nn := IntWalk.i64_in _ (by omega)
    subst hA
    obtain ⟨s, hs⟩ : ∃ s, s = qs + nn := ⟨_, rfl⟩
    have hbt := HD.out.boot1 HQ.out (qs + nn) hsl 1
    have HSUM := Lib.hid (hsum.trans hs.symm)
    rw [← hs] at hsl hbt
    have hsI : (qs : Int) + (nn : Int) = (s : Int) := by omega
    have HSI := Lib.hid hsI
    have HBT := Lib.hid hbt
    clear hnn hsum hcz hadz hzk hs hbt hsI
    go_wp2_with fail
    refine wp_region_heldT 23 (by kernel_rfl) (S := fun W => W.cell? ⟨blk, 0, none⟩ = some (.slice Ax qb.length cx) ∧ W.cell? ⟨blk, 1, none⟩ = some (.int .i64 (qs : Int)) ∧ W.cell? (adz.add k) = some (.int .i64 zk) ∧ True) ⟨e0, e1, hcz', trivial⟩ (fun hHeld => ?_)
    refine heldT_take 0 (v := ?_) (by simp) (by kernel_rfl) (by kernel_rfl) (by kernel_rfl) (by kernel_rfl) (fun _ _ _ h => h) (Or.inl ⟨by rfl, ?_⟩) hHeld ?_
    case refine_2 => (intro w hSw; (try dsimp only at hSw); (try (obtain ⟨s0, s1, s2, s3⟩ := hSw)); simp only [List.getElem_cons_zero]; go_simp <;> with_reducible rfl)
    simp only [List.getElem_cons_zero, Act.put, List.setIfInBounds_toArray, List.set_cons_zero, List.set_cons_succ]
    refine heldT_take 1 (v := ?_) (by simp) (by kernel_rfl) (by kernel_rfl) (by kernel_rfl) (by kernel_rfl) (fun _ _ _ h => h) (Or.inl ⟨by rfl, ?_⟩) hHeld ?_
    case refine_2 => (intro w hSw; (try dsimp only at hSw); (try (obtain ⟨s0, s1, s2, s3⟩ := hSw)); simp only [List.getElem_cons_zero, List.getElem_cons_succ]; go_simp <;> with_reducible rfl)
    simp only [List.getElem_cons_zero, List.getElem_cons_succ, Act.put, List.setIfInBounds_toArray, List.set_cons_zero, List.set_cons_succ]
    refine heldT_take 2 (v := ?_) (by simp) (by kernel_rfl) (by kernel_rfl) (by kernel_rfl) (by kernel_rfl) (fun _ _ _ h => h) (Or.inl ⟨by rfl, ?_⟩) hHeld ?_
    case refine_2 => (intro w hSw; (try dsimp only at hSw); (try (obtain ⟨s0, s1, s2, s3⟩ := hSw)); simp only [List.getElem_cons_zero, List.getElem_cons_succ]; go_simp <;> with_reducible rfl)
    simp only [List.getElem_cons_zero, List.getElem_cons_succ, Act.put, List.setIfInBounds_toArray, List.set_cons_zero, List.set_cons_succ]
    refine heldT_take 3 (v := ?_) (by simp) (by kernel_rfl) (by kernel_rfl) (by kernel_rfl) (by kernel_rfl) (fun _ _ _ h => h) (Or.inl ⟨by rfl, ?_⟩) hHeld ?_
    case refine_2 => (intro w hSw; (try dsimp only at hSw); (try (obtain ⟨s0, s1, s2, s3⟩ := hSw)); simp only [List.getElem_cons_zero, List.getElem_cons_succ]; go_simp <;> with_reducible rfl)
    simp only [List.getElem_cons_zero, List.getElem_cons_succ, Act.put, List.setIfInBounds_toArray, List.set_cons_zero, List.set_cons_succ]
    refine heldT_take 4 (v := ?_) (by simp) (by kernel_rfl) (by kernel_rfl) (by kernel_rfl) (by kernel_rfl) (fun _ _ _ h => h) (Or.inl ⟨by rfl, ?_⟩) hHeld ?_
    case refine_2 => (intro w hSw; (try dsimp only at hSw); (try (obtain ⟨s0, s1, s2, s3⟩ := hSw)); simp only [List.getElem_cons_zero, List.getElem_cons_succ]; go_simp <;> with_reducible rfl)
    simp only [List.getElem_cons_zero, List.getElem_cons_succ, Act.put, List.setIfInBounds_toArray, List.set_cons_zero, List.set_cons_succ]
    refine heldT_take 5 (v := ?_) (by simp) (by kernel_rfl) (by kernel_rfl) (by kernel_rfl) (by kernel_rfl) (fun _ _ _ h => h) (Or.inl ⟨by rfl, ?_⟩) hHeld ?_
    case refine_2 => (intro w hSw; (try dsimp only at hSw); (try (obtain ⟨s0, s1, s2, s3⟩ := hSw)); simp only [List.getElem_cons_zero, List.getElem_cons_succ]; go_simp <;> with_reducible rfl)
    simp only [List.getElem_cons_zero, List.getElem_cons_succ, Act.put, List.setIfInBounds_toArray, List.set_cons_zero, List.set_cons_succ]
    refine heldT_take 6 (v := ?_) (by simp) (by kernel_rfl) (by kernel_rfl) (by kernel_rfl) (by kernel_rfl) (fun _ _ _ h => h) (Or.inl ⟨by rfl, ?_⟩) hHeld ?_
    case refine_2 => (intro w hSw; (try dsimp only at hSw); (try (obtain ⟨s0, s1, s2, s3⟩ := hSw)); simp only [List.getElem_cons_zero, List.getElem_cons_succ]; go_simp <;> with_reducible rfl)
    simp only [List.getElem_cons_zero, List.getElem_cons_succ, Act.put, List.setIfInBounds_toArray, List.set_cons_zero, List.set_cons_succ]
    refine heldT_take 7 (v := ?_) (by simp) (by kernel_rfl) (by kernel_rfl) (by kernel_rfl) (by kernel_rfl) (fun _ _ _ h => h) (Or.inl ⟨by rfl, ?_⟩) hHeld ?_
    case refine_2 => (intro w hSw; (try dsimp only at hSw); (try (obtain ⟨s0, s1, s2, s3⟩ := hSw)); simp only [List.getElem_cons_zero, List.getElem_cons_succ]; go_simp <;> with_reducible rfl)
    simp only [List.getElem_cons_zero, List.getElem_cons_succ, Act.put, List.setIfInBounds_toArray, List.set_cons_zero, List.set_cons_succ]
    refine heldT_take 8 (v := ?_) (by simp) (by kernel_rfl) (by kernel_rfl) (by kernel_rfl) (by kernel_rfl) (fun _ _ _ h => h) (Or.inl ⟨by rfl, ?_⟩) hHeld ?_
    case refine_2 => (intro w hSw; (try dsimp only at hSw); (try (obtain ⟨s0, s1, s2, s3⟩ := hSw)); simp only [List.getElem_cons_zero, List.getElem_cons_succ]; go_simp <;> with_reducible rfl)
    simp only [List.getElem_cons_zero, List.getElem_cons_succ, Act.put, List.setIfInBounds_toArray, List.set_cons_zero, List.set_cons_succ]
    refine heldT_take 9 (v := ?_) (by simp) (by kernel_rfl) (by kernel_rfl) (by kernel_rfl) (by kernel_rfl) (fun _ _ _ h => h) (Or.inl ⟨by rfl, ?_⟩) hHeld ?_
    case refine_2 => (intro w hSw; (try dsimp only at hSw); (try (obtain ⟨s0, s1, s2, s3⟩ := hSw)); simp only [List.getElem_cons_zero, List.getElem_cons_succ]; go_simp <;> with_reducible rfl)
    simp only [List.getElem_cons_zero, List.getElem_cons_succ, Act.put, List.setIfInBounds_toArray, List.set_cons_zero, List.set_cons_succ]
    refine heldT_take 10 (v := ?_) (by simp) (by kernel_rfl) (by kernel_rfl) (by kernel_rfl) (by kernel_rfl) (fun _ _ _ h => h) (Or.inl ⟨by rfl, ?_⟩) hHeld ?_
    case refine_2 => (intro w hSw; (try dsimp only at hSw); (try (obtain ⟨s0, s1, s2, s3⟩ := hSw)); simp only [List.getElem_cons_zero, List.getElem_cons_succ]; go_simp <;> with_reducible rfl)
    simp only [List.getElem_cons_zero, List.getElem_cons_succ, Act.put, List.setIfInBounds_toArray, List.set_cons_zero, List.set_cons_succ]
    refine heldT_take 11 (v := ?_) (by simp) (by kernel_rfl) (by kernel_rfl) (by kernel_rfl) (by kernel_rfl) (fun _ _ _ h => h) (Or.inl ⟨by rfl, ?_⟩) hHeld ?_
    case refine_2 => (intro w hSw; (try dsimp only at hSw); (try (obtain ⟨s0, s1, s2, s3⟩ := hSw)); simp only [List.getElem_cons_zero, List.getElem_cons_succ]; go_simp <;> with_reducible rfl)
    simp only [List.getElem_cons_zero, List.getElem_cons_succ, Act.put, List.setIfInBounds_toArray, List.set_cons_zero, List.set_cons_succ]
    refine heldT_take 12 (v := ?_) (by simp) (by kernel_rfl) (by kernel_rfl) (by kernel_rfl) (by kernel_rfl) (fun _ _ _ h => h) (Or.inl ⟨by rfl, ?_⟩) hHeld ?_
    case refine_2 => (intro w hSw; (try dsimp only at hSw); (try (obtain ⟨s0, s1, s2, s3⟩ := hSw)); simp only [List.getElem_cons_zero, List.getElem_cons_succ]; go_simp <;> with_reducible rfl)
    simp only [List.getElem_cons_zero, List.getElem_cons_succ, Act.put, List.setIfInBounds_toArray, List.set_cons_zero, List.set_cons_succ]
    refine heldT_take 13 (v := ?_) (by simp) (by kernel_rfl) (by kernel_rfl) (by kernel_rfl) (by kernel_rfl) (fun _ _ _ h => h) (Or.inl ⟨by rfl, ?_⟩) hHeld ?_
    case refine_2 => (intro w hSw; (try dsimp only at hSw); (try (obtain ⟨s0, s1, s2, s3⟩ := hSw)); simp only [List.getElem_cons_zero, List.getElem_cons_succ]; go_simp <;> with_reducible rfl)
    simp only [List.getElem_cons_zero, List.getElem_cons_succ, Act.put, List.setIfInBounds_toArray, List.set_cons_zero, List.set_cons_succ]
    refine heldT_take 14 (v := ?_) (by simp) (by kernel_rfl) (by kernel_rfl) (by kernel_rfl) (by kernel_rfl) (fun _ _ _ h => h) (Or.inl ⟨by rfl, ?_⟩) hHeld ?_
    case refine_2 => (intro w hSw; (try dsimp only at hSw); (try (obtain ⟨s0, s1, s2, s3⟩ := hSw)); simp only [List.getElem_cons_zero, List.getElem_cons_succ]; go_simp <;> with_reducible rfl)
    simp only [List.getElem_cons_zero, List.getElem_cons_succ, Act.put, List.setIfInBounds_toArray, List.set_cons_zero, List.set_cons_succ]
    refine heldT_take 15 (v := ?_) (by simp) (by kernel_rfl) (by kernel_rfl) (by kernel_rfl) (by kernel_rfl) (fun _ _ _ h => h) (Or.inl ⟨by rfl, ?_⟩) hHeld ?_
    case refine_2 => (intro w hSw; (try dsimp only at hSw); (try (obtain ⟨s0, s1, s2, s3⟩ := hSw)); simp only [List.getElem_cons_zero, List.getElem_cons_succ]; go_simp <;> with_reducible rfl)
    simp only [List.getElem_cons_zero, List.getElem_cons_succ, Act.put, List.setIfInBounds_toArray, List.set_cons_zero, List.set_cons_succ]
    refine heldT_take 16 (v := ?_) (by simp) (by kernel_rfl) (by kernel_rfl) (by kernel_rfl) (by kernel_rfl) (fun _ _ _ h => h) (Or.inl ⟨by rfl, ?_⟩) hHeld ?_
    case refine_2 => (intro w hSw; (try dsimp only at hSw); (try (obtain ⟨s0, s1, s2, s3⟩ := hSw)); simp only [List.getElem_cons_zero, List.getElem_cons_succ]; go_simp <;> with_reducible rfl)
    simp only [List.getElem_cons_zero, List.getElem_cons_succ, Act.put, List.setIfInBounds_toArray, List.set_cons_zero, List.set_cons_succ]
    refine heldT_take 17 (v := ?_) (by simp) (by kernel_rfl) (by kernel_rfl) (by kernel_rfl) (by kernel_rfl) (fun _ _ _ h => h) (Or.inl ⟨by rfl, ?_⟩) hHeld ?_
    case refine_2 => (intro w hSw; (try dsimp only at hSw); (try (obtain ⟨s0, s1, s2, s3⟩ := hSw)); simp only [List.getElem_cons_zero, List.getElem_cons_succ]; go_simp <;> with_reducible rfl)
    simp only [List.getElem_cons_zero, List.getElem_cons_succ, Act.put, List.setIfInBounds_toArray, List.set_cons_zero, List.set_cons_succ]
    refine heldT_take 18 (v := ?_) (by simp) (by kernel_rfl) (by kernel_rfl) (by kernel_rfl) (by kernel_rfl) (fun _ _ _ h => h) (Or.inl ⟨by rfl, ?_⟩) hHeld ?_
    case refine_2 => (intro w hSw; (try dsimp only at hSw); (try (obtain ⟨s0, s1, s2, s3⟩ := hSw)); simp only [List.getElem_cons_zero, List.getElem_cons_succ]; go_simp <;> with_reducible rfl)
    simp only [List.getElem_cons_zero, List.getElem_cons_succ, Act.put, List.setIfInBounds_toArray, List.set_cons_zero, List.set_cons_succ]
    refine heldT_sole 19 (by simp) (by kernel_rfl) (fun K hK => ?_)
    simp only [List.getElem_cons_zero, List.getElem_cons_succ]
    go_simp
    refine (HMO _).out.mono ?_
    rintro e w' ⟨rfl, rfl⟩
    refine hK.out _ _ ⟨e0, e1, hcz', trivial⟩ (fun hHeld => ?_)
    clear hK K
    try simp only [Act.put, List.setIfInBounds_toArray, List.set_cons_zero, List.set_cons_succ]
    refine heldT_sole 20 (by simp) (by kernel_rfl) (fun K hK => ?_)
    simp only [List.getElem_cons_zero, List.getElem_cons_succ]
    go_simp
    refine hK.out _ _ ⟨e0, e1, hcz', trivial⟩ (fun hHeld => ?_)
    clear hK K
    try simp only [Act.put, List.setIfInBounds_toArray, List.set_cons_zero, List.set_cons_succ]
    refine heldT_sole 21 (by simp) (by kernel_rfl) (fun K hK => ?_)
    simp only [List.getElem_cons_zero, List.getElem_cons_succ]
    go_simp
    refine hK.out _ _ ⟨e0, e1, hcz', trivial⟩ (fun hHeld => ?_)
    clear hK K
    try simp only [Act.put, List.setIfInBounds_toArray, List.set_cons_zero, List.set_cons_succ]
    refine heldT_sole 22 (by simp) (by kernel_rfl) (fun K hK => ?_)
    simp only [List.getElem_cons_zero, List.getElem_cons_succ]
    go_simp
    refine hK.out _ _ ⟨e0, e1, hcz', trivial⟩ (fun hHeld => ?_)
    clear hK K
    try simp only [Act.put, List.setIfInBounds_toArray, List.set_cons_zero, List.set_cons_succ]
    refine heldT_last (t := 23) (by simp) (by kernel_rfl) (by kernel_rfl) (fun K hK => ?_)
    simp only [List.getElem_cons_zero, List.getElem_cons_succ]
    go_simp
    refine hK.out _ _ ?_
    clear hK K hHeld
    rw [HSI.out]
    obtain ⟨W1, hW1⟩ : ∃ W1, W1 = (wr.setCell ⟨blk, 1, none⟩ (.int .i64 (s : Int))).drew := ⟨_, rfl⟩
    have hbt : DiskAt W1 base g m p room (asPut qn ⟨blk, qv, ⟨qb, s⟩⟩ es') ∧ Fr (DFoot g m es') wr W1 ∧ (∀ k, DFoot g m (asPut qn ⟨blk, qv, ⟨qb, s⟩⟩ es') k → DFoot g m es' k ∨ wr.heap.size ≤ k) := by rw [hW1]; exact HBT.out
    have HD1 := Lib.hid hbt.1
    have HF1 := Lib.hid hbt.2.1
    have HK1 := Lib.hid hbt.2.2
    have HG1 := Lib.hid (asGet_put qn (⟨blk, qv, ⟨qb, s⟩⟩ : FE) es')
    have HPUT := fun v => Lib.hid (asPut_put qn (⟨blk, v, ⟨qb.take s, s⟩⟩ : FE) (⟨blk, qv, ⟨qb, s⟩⟩ : FE) es')
    rw [← hW1]
    clear hbt hW1 HBT e0 e1 u0 u1 w1' w2' w3' hcz' HMO
    go_wp2_with fail
    have hlts : (qb.take s).length = s := by rw [List.length_take]; omega
    have hmem1 := asGet_some HG1.out
    have hKF := HD1.out.file _ hmem1
    have hbl1 : blk < W1.heap.size := hKF.lt
    obtain ⟨A8, c8, h8, _, _, r8⟩ := (HD1.out.got _ hmem1).shape
    simp only at h8 r8 hKF
    have h9 : qv = .slice Ax qb.length cx := HV.out
    rw [h9] at h8
    have e0 : W1.cell? ⟨blk, 0, none⟩ = some (.slice Ax qb.length cx) := by rw [← h9]; exact hKF.cell 0
    have e1 : W1.cell? ⟨blk, 1, none⟩ = some (.int .i64 (s : Int)) := hKF.cell 1
    injection h8 with h8 h8b h8c
    clear h8b h8c
    have hvr1 : Rd W1 W1.heap.size Ax (cells (qb.take s)) := by rw [h8]; unfold cells; rw [List.map_take]; exact Rd.take r8 _
    have hscx : s ≤ cx := by omega
    have hcut := fun W : World => run_cut (P := Tryz.prog) Tryz.underlying34 info_u8 Ax qb.length cx 0 s (by omega) (by omega) 0 (s : Int) rfl rfl W
    have HCL := Lib.hid (clone_any Ax (qb.take s) s cx hlts.symm W1.drew (show Rd W1.drew W1.drew.heap.size Ax _ from hvr1) (by omega))
    have HLTS := Lib.hid hlts
    have HKF := Lib.hid hKF
    clear h8 r8 h9 hvr1 hmem1 hKF hlts
    refine wp_region_heldT 13 (by kernel_rfl) (S := fun W => W.cell? ⟨blk, 0, none⟩ = some (.slice Ax qb.length cx) ∧ W.cell? ⟨blk, 1, none⟩ = some (.int .i64 (s : Int)) ∧ True ∧ True) ⟨e0, e1, trivial, trivial⟩ (fun hHeld => ?_)
    refine heldT_take 0 (v := ?_) (by simp) (by kernel_rfl) (by kernel_rfl) (by kernel_rfl) (by kernel_rfl) (fun _ _ _ h => h) (Or.inl ⟨by rfl, ?_⟩) hHeld ?_
    case refine_2 => (intro w hSw; (try dsimp only at hSw); (try (obtain ⟨s0, s1, s2, s3⟩ := hSw)); simp only [List.getElem_cons_zero]; go_simp <;> with_reducible rfl)
    simp only [List.getElem_cons_zero, Act.put, List.setIfInBounds_toArray, List.set_cons_zero, List.set_cons_succ]
    refine heldT_take 1 (v := ?_) (by simp) (by kernel_rfl) (by kernel_rfl) (by kernel_rfl) (by kernel_rfl) (fun _ _ _ h => h) (Or.inl ⟨by rfl, ?_⟩) hHeld ?_
    case refine_2 => (intro w hSw; (try dsimp only at hSw); (try (obtain ⟨s0, s1, s2, s3⟩ := hSw)); simp only [List.getElem_cons_zero, List.getElem_cons_succ]; go_simp <;> with_reducible rfl)
    simp only [List.getElem_cons_zero, List.getElem_cons_succ, Act.put, List.setIfInBounds_toArray, List.set_cons_zero, List.set_cons_succ]
    refine heldT_take 2 (v := ?_) (by simp) (by kernel_rfl) (by kernel_rfl) (by kernel_rfl) (by kernel_rfl) (fun _ _ _ h => h) (Or.inl ⟨by rfl, ?_⟩) hHeld ?_
    case refine_2 => (intro w hSw; (try dsimp only at hSw); (try (obtain ⟨s0, s1, s2, s3⟩ := hSw)); simp only [List.getElem_cons_zero, List.getElem_cons_succ]; go_simp <;> with_reducible rfl)
    simp only [List.getElem_cons_zero, List.getElem_cons_succ, Act.put, List.setIfInBounds_toArray, List.set_cons_zero, List.set_cons_succ]
    refine heldT_take 3 (v := ?_) (by simp) (by kernel_rfl) (by kernel_rfl) (by kernel_rfl) (by kernel_rfl) (fun _ _ _ h => h) (Or.inl ⟨by rfl, ?_⟩) hHeld ?_
    case refine_2 => (intro w hSw; (try dsimp only at hSw); (try (obtain ⟨s0, s1, s2, s3⟩ := hSw)); simp only [List.getElem_cons_zero, List.getElem_cons_succ]; go_simp <;> with_reducible rfl)
    simp only [List.getElem_cons_zero, List.getElem_cons_succ, Act.put, List.setIfInBounds_toArray, List.set_cons_zero, List.set_cons_succ]
    refine heldT_take 4 (v := ?_) (by simp) (by kernel_rfl) (by kernel_rfl) (by kernel_rfl) (by kernel_rfl) (fun _ _ _ h => h) (Or.inl ⟨by rfl, ?_⟩) hHeld ?_
    case refine_2 => (intro w hSw; (try dsimp only at hSw); (try (obtain ⟨s0, s1, s2, s3⟩ := hSw)); simp only [List.getElem_cons_zero, List.getElem_cons_succ]; go_simp <;> with_reducible rfl)
    simp only [List.getElem_cons_zero, List.getElem_cons_succ, Act.put, List.setIfInBounds_toArray, List.set_cons_zero, List.set_cons_succ]
    refine heldT_take 5 (v := ?_) (by simp) (by kernel_rfl) (by kernel_rfl) (by kernel_rfl) (by kernel_rfl) (fun _ _ _ h => h) (Or.inl ⟨by rfl, ?_⟩) hHeld ?_
    case refine_2 => (intro w hSw; (try dsimp only at hSw); (try (obtain ⟨s0, s1, s2, s3⟩ := hSw)); simp only [List.getElem_cons_zero, List.getElem_cons_succ]; go_simp <;> with_reducible rfl)
    simp only [List.getElem_cons_zero, List.getElem_cons_succ, Act.put, List.setIfInBounds_toArray, List.set_cons_zero, List.set_cons_succ]
    refine heldT_take 6 (v := ?_) (by simp) (by kernel_rfl) (by kernel_rfl) (by kernel_rfl) (by kernel_rfl) (fun _ _ _ h => h) (Or.inl ⟨by rfl, ?_⟩) hHeld ?_
    case refine_2 => (intro w hSw; (try dsimp only at hSw); (try (obtain ⟨s0, s1, s2, s3⟩ := hSw)); simp only [List.getElem_cons_zero, List.getElem_cons_succ]; go_simp <;> with_reducible rfl)
    simp only [List.getElem_cons_zero, List.getElem_cons_succ, Act.put, List.setIfInBounds_toArray, List.set_cons_zero, List.set_cons_succ]
    refine heldT_take 7 (v := ?_) (by simp) (by kernel_rfl) (by kernel_rfl) (by kernel_rfl) (by kernel_rfl) (fun _ _ _ h => h) (Or.inl ⟨by rfl, ?_⟩) hHeld ?_
    case refine_2 => (intro w hSw; (try dsimp only at hSw); (try (obtain ⟨s0, s1, s2, s3⟩ := hSw)); simp only [List.getElem_cons_zero, List.getElem_cons_succ]; go_simp <;> with_reducible rfl)
    simp only [List.getElem_cons_zero, List.getElem_cons_succ, Act.put, List.setIfInBounds_toArray, List.set_cons_zero, List.set_cons_succ]
    refine heldT_take 8 (v := ?_) (by simp) (by kernel_rfl) (by kernel_rfl) (by kernel_rfl) (by kernel_rfl) (fun _ _ _ h => h) (Or.inl ⟨by rfl, ?_⟩) hHeld ?_
    case refine_2 => (intro w hSw; (try dsimp only at hSw); (try (obtain ⟨s0, s1, s2, s3⟩ := hSw)); simp only [List.getElem_cons_zero, List.getElem_cons_succ]; go_simp <;> with_reducible rfl)
    simp only [List.getElem_cons_zero, List.getElem_cons_succ, Act.put, List.setIfInBounds_toArray, List.set_cons_zero, List.set_cons_succ]
    refine heldT_take 9 (v := ?_) (by simp) (by kernel_rfl) (by kernel_rfl) (by kernel_rfl) (by kernel_rfl) (fun _ _ _ h => h) (Or.inl ⟨by rfl, ?_⟩) hHeld ?_
    case refine_2 => (intro w hSw; (try dsimp only at hSw); (try (obtain ⟨s0, s1, s2, s3⟩ := hSw)); simp only [List.getElem_cons_zero, List.getElem_cons_succ]; go_simp <;> with_reducible rfl)
    simp only [List.getElem_cons_zero, List.getElem_cons_succ, Act.put, List.setIfInBounds_toArray, List.set_cons_zero, List.set_cons_succ]
    refine heldT_sole 10 (by simp) (by kernel_rfl) (fun K hK => ?_)
    simp only [List.getElem_cons_zero, List.getElem_cons_succ]
    go_simp
    refine (HCL.out).mono ?_
    rintro e W2 ⟨v5, rfl, hg5, hb5⟩
    obtain ⟨A5, c5, hv5, _⟩ := bs_shape hg5
    rw [HLTS.out] at hv5
    subst hv5
    have b0 := hb5.cell (p := ⟨blk, 0, none⟩) hbl1
    have b1 := hb5.cell (p := ⟨blk, 1, none⟩) hbl1
    rw [show W1.drew.cell? ⟨blk, 0, none⟩ = _ from e0] at b0
    rw [show W1.drew.cell? ⟨blk, 1, none⟩ = _ from e1] at b1
    have hb5' : Below W1.heap.size W1 W2 := (Below.refl _ W1).drew.trans hb5
    have hK2 : Blk W2 blk 83 _ := (hb5.block blk hbl1).trans HKF.out
    have b2 : W2.frozen? ⟨blk, 0, none⟩ = false := hK2.frozen 0
    have hfin := DiskAt.boot2 HD1.out hb5' HG1.out (v := .slice A5 s c5) (l := qb.take s) (by rw [HLTS.out]; exact Nat.le_refl _) (Got.of_own hg5)
    rw [(HPUT _).out] at hfin
    have HFIN := Lib.hid hfin
    clear hb5 hb5' hg5 hK2 hfin
    refine hK.out _ _ ⟨b0, b1, trivial, trivial⟩ (fun hHeld => ?_)
    clear hK K
    try simp only [Act.put, List.setIfInBounds_toArray, List.set_cons_zero, List.set_cons_succ]
    refine heldT_sole 11 (by simp) (by kernel_rfl) (fun K hK => ?_)
    simp only [List.getElem_cons_zero, List.getElem_cons_succ]
    go_simp
    refine hK.out _ _ ⟨b0, b1, trivial, trivial⟩ (fun hHeld => ?_)
    clear hK K
    try simp only [Act.put, List.setIfInBounds_toArray, List.set_cons_zero, List.set_cons_succ]
    refine heldT_sole 12 (by simp) (by kernel_rfl) (fun K hK => ?_)
    simp only [List.getElem_cons_zero, List.getElem_cons_succ]
    go_simp
    refine hK.out _ _ ⟨b0, b1, trivial, trivial⟩ (fun hHeld => ?_)
    clear hK K
    try simp only [Act.put, List.setIfInBounds_toArray, List.set_cons_zero, List.set_cons_succ]
    refine heldT_last (t := 13) (by simp) (by kernel_rfl) (by kernel_rfl) (fun K hK => ?_)
    simp only [List.getElem_cons_zero, List.getElem_cons_succ]
    go_simp
    refine hK.out _ _ ?_
    clear hK K hHeld b0 b1 b2 hcut HCL e0 e1
    have HFR := Lib.hid ((HF.out.trans HF1.out HK.out).trans HFIN.out.2.1 (fun j hj => by
     rcases HK1.out j hj with h | h
     ·exact HK.out j h
     ·exact .inr (Nat.le_trans HF.out.size h)))
    have HFK : Hid (∀ j, DFoot g m (asPut qn ⟨blk, .slice A5 s c5, ⟨qb.take s, s⟩⟩ es') j → DFoot g m es j ∨ w1.heap.size ≤ j) := Lib.hid (fun j hj => by
     rcases HFIN.out.2.2 j hj with h | h
     ·rcases HK1.out j h with h | h
      ·exact HK.out j h
      ·exact .inr (Nat.le_trans HF.out.size h)
     ·exact .inr (Nat.le_trans (Nat.le_trans HF.out.size HF1.out.size) h))
    have HSEC := Lib.hid (HSTEP.out s (.slice A5 s c5) HSUM.out.symm)
    have HD9 := Lib.hid HFIN.out.1
    clear HFIN HSTEP HD1 HG1 HF1 HK1 HPUT
    go_wp2_with fail
    go_roundw
    case rel => exact ⟨k + 1, _, by omega, by go_num, HD9, HSEC, HFR, HFK⟩
    case measure => simp [intOf]; omega
   ·have hsum : (bootAt z k ⟨qb, qs⟩).safe = qs := by
     unfold bootAt
     show qs + _ = _
     rw [if_neg hkz]
     rfl
    have hkzI : ¬ (k : Int) < (z.length : Int) := by omega
    obtain ⟨s, hs⟩ : ∃ s, s = qs := ⟨_, rfl⟩
    have HSUM := Lib.hid (hsum.trans hs.symm)
    have hsl : s ≤ qb.length := by omega
    have HG1 := HQ
    simp only at HG1
    have HHS := Lib.hid hs
    have HG1 : Hid (asGet qn es' = some ⟨blk, qv, ⟨qb, s⟩⟩) := Lib.hid (by rw [HHS.out]; exact HQ.out)
    rw [← hs] at e1
    clear hsum hs
    go_wp2_with fail
    obtain ⟨W1, hW1⟩ : ∃ W1, W1 = wr := ⟨_, rfl⟩
    have HD1 : Hid (DiskAt W1 base g m p room es') := by rw [hW1]; exact HD
    have HF1 : Hid (Fr (DFoot g m es') wr W1) := by rw [hW1]; exact Lib.hid (Fr.refl _ _)
    have HK1 : Hid (∀ k, DFoot g m es' k → DFoot g m es' k ∨ wr.heap.size ≤ k) := Lib.hid (fun k hk => .inl hk)
    have HPUT := fun v => Lib.hid (rfl : asPut qn (⟨blk, v, ⟨qb.take s, s⟩⟩ : FE) es' = asPut qn ⟨blk, v, ⟨qb.take s, s⟩⟩ es')
    rw [← hW1]
    clear hW1 e0 e1 u0 u1
    have hlts : (qb.take s).length = s := by rw [List.length_take]; omega
    have hmem1 := asGet_some HG1.out
    have hKF := HD1.out.file _ hmem1
    have hbl1 : blk < W1.heap.size := hKF.lt
    obtain ⟨A8, c8, h8, _, _, r8⟩ := (HD1.out.got _ hmem1).shape
    simp only at h8 r8 hKF
    have h9 : qv = .slice Ax qb.length cx := HV.out
    rw [h9] at h8
    have e0 : W1.cell? ⟨blk, 0, none⟩ = some (.slice Ax qb.length cx) := by rw [← h9]; exact hKF.cell 0
    have e1 : W1.cell? ⟨blk, 1, none⟩ = some (.int .i64 (s : Int)) := hKF.cell 1
    injection h8 with h8 h8b h8c
    clear h8b h8c
    have hvr1 : Rd W1 W1.heap.size Ax (cells (qb.take s)) := by rw [h8]; unfold cells; rw [List.map_take]; exact Rd.take r8 _
    have hscx : s ≤ cx := by omega
    have hcut := fun W : World => run_cut (P := Tryz.prog) Tryz.underlying34 info_u8 Ax qb.length cx 0 s (by omega) (by omega) 0 (s : Int) rfl rfl W
    have HCL := Lib.hid (clone_any Ax (qb.take s) s cx hlts.symm W1.drew (show Rd W1.drew W1.drew.heap.size Ax _ from hvr1) (by omega))
    have HLTS := Lib.hid hlts
    have HKF := Lib.hid hKF
    clear h8 r8 h9 hvr1 hmem1 hKF hlts
    refine wp_region_heldT 13 (by kernel_rfl) (S := fun W => W.cell? ⟨blk, 0, none⟩ = some (.slice Ax qb.length cx) ∧ W.cell? ⟨blk, 1, none⟩ = some (.int .i64 (s : Int)) ∧ True ∧ True) ⟨e0, e1, trivial, trivial⟩ (fun hHeld => ?_)
    refine heldT_take 0 (v := ?_) (by simp) (by kernel_rfl) (by kernel_rfl) (by kernel_rfl) (by kernel_rfl) (fun _ _ _ h => h) (Or.inl ⟨by rfl, ?_⟩) hHeld ?_
    case refine_2 => (intro w hSw; (try dsimp only at hSw); (try (obtain ⟨s0, s1, s2, s3⟩ := hSw)); simp only [List.getElem_cons_zero]; go_simp <;> with_reducible rfl)
    simp only [List.getElem_cons_zero, Act.put, List.setIfInBounds_toArray, List.set_cons_zero, List.set_cons_succ]
    refine heldT_take 1 (v := ?_) (by simp) (by kernel_rfl) (by kernel_rfl) (by kernel_rfl) (by kernel_rfl) (fun _ _ _ h => h) (Or.inl ⟨by rfl, ?_⟩) hHeld ?_
    case refine_2 => (intro w hSw; (try dsimp only at hSw); (try (obtain ⟨s0, s1, s2, s3⟩ := hSw)); simp only [List.getElem_cons_zero, List.getElem_cons_succ]; go_simp <;> with_reducible rfl)
    simp only [List.getElem_cons_zero, List.getElem_cons_succ, Act.put, List.setIfInBounds_toArray, List.set_cons_zero, List.set_cons_succ]
    refine heldT_take 2 (v := ?_) (by simp) (by kernel_rfl) (by kernel_rfl) (by kernel_rfl) (by kernel_rfl) (fun _ _ _ h => h) (Or.inl ⟨by rfl, ?_⟩) hHeld ?_
    case refine_2 => (intro w hSw; (try dsimp only at hSw); (try (obtain ⟨s0, s1, s2, s3⟩ := hSw)); simp only [List.getElem_cons_zero, List.getElem_cons_succ]; go_simp <;> with_reducible rfl)
    simp only [List.getElem_cons_zero, List.getElem_cons_succ, Act.put, List.setIfInBounds_toArray, List.set_cons_zero, List.set_cons_succ]
    refine heldT_take 3 (v := ?_) (by simp) (by kernel_rfl) (by kernel_rfl) (by kernel_rfl) (by kernel_rfl) (fun _ _ _ h => h) (Or.inl ⟨by rfl, ?_⟩) hHeld ?_
    case refine_2 => (intro w hSw; (try dsimp only at hSw); (try (obtain ⟨s0, s1, s2, s3⟩ := hSw)); simp only [List.getElem_cons_zero, List.getElem_cons_succ]; go_simp <;> with_reducible rfl)
    simp only [List.getElem_cons_zero, List.getElem_cons_succ, Act.put, List.setIfInBounds_toArray, List.set_cons_zero, List.set_cons_succ]
    refine heldT_take 4 (v := ?_) (by simp) (by kernel_rfl) (by kernel_rfl) (by kernel_rfl) (by kernel_rfl) (fun _ _ _ h => h) (Or.inl ⟨by rfl, ?_⟩) hHeld ?_
    case refine_2 => (intro w hSw; (try dsimp only at hSw); (try (obtain ⟨s0, s1, s2, s3⟩ := hSw)); simp only [List.getElem_cons_zero, List.getElem_cons_succ]; go_simp <;> with_reducible rfl)
    simp only [List.getElem_cons_zero, List.getElem_cons_succ, Act.put, List.setIfInBounds_toArray, List.set_cons_zero, List.set_cons_succ]
    refine heldT_take 5 (v := ?_) (by simp) (by kernel_rfl) (by kernel_rfl) (by kernel_rfl) (by kernel_rfl) (fun _ _ _ h => h) (Or.inl ⟨by rfl, ?_⟩) hHeld ?_
    case refine_2 => (intro w hSw; (try dsimp only at hSw); (try (obtain ⟨s0, s1, s2, s3⟩ := hSw)); simp only [List.getElem_cons_zero, List.getElem_cons_succ]; go_simp <;> with_reducible rfl)
    simp only [List.getElem_cons_zero, List.getElem_cons_succ, Act.put, List.setIfInBounds_toArray, List.set_cons_zero, List.set_cons_succ]
    refine heldT_take 6 (v := ?_) (by simp) (by kernel_rfl) (by kernel_rfl) (by kernel_rfl) (by kernel_rfl) (fun _ _ _ h => h) (Or.inl ⟨by rfl, ?_⟩) hHeld ?_
    case refine_2 => (intro w hSw; (try dsimp only at hSw); (try (obtain ⟨s0, s1, s2, s3⟩ := hSw)); simp only [List.getElem_cons_zero, List.getElem_cons_succ]; go_simp <;> with_reducible rfl)
    simp only [List.getElem_cons_zero, List.getElem_cons_succ, Act.put, List.setIfInBounds_toArray, List.set_cons_zero, List.set_cons_succ]
    refine heldT_take 7 (v := ?_) (by simp) (by kernel_rfl) (by kernel_rfl) (by kernel_rfl) (by kernel_rfl) (fun _ _ _ h => h) (Or.inl ⟨by rfl, ?_⟩) hHeld ?_
    case refine_2 => (intro w hSw; (try dsimp only at hSw); (try (obtain ⟨s0, s1, s2, s3⟩ := hSw)); simp only [List.getElem_cons_zero, List.getElem_cons_succ]; go_simp <;> with_reducible rfl)
    simp only [List.getElem_cons_zero, List.getElem_cons_succ, Act.put, List.setIfInBounds_toArray, List.set_cons_zero, List.set_cons_succ]
    refine heldT_take 8 (v := ?_) (by simp) (by kernel_rfl) (by kernel_rfl) (by kernel_rfl) (by kernel_rfl) (fun _ _ _ h => h) (Or.inl ⟨by rfl, ?_⟩) hHeld ?_
    case refine_2 => (intro w hSw; (try dsimp only at hSw); (try (obtain ⟨s0, s1, s2, s3⟩ := hSw)); simp only [List.getElem_cons_zero, List.getElem_cons_succ]; go_simp <;> with_reducible rfl)
    simp only [List.getElem_cons_zero, List.getElem_cons_succ, Act.put, List.setIfInBounds_toArray, List.set_cons_zero, List.set_cons_succ]
    refine heldT_take 9 (v := ?_) (by simp) (by kernel_rfl) (by kernel_rfl) (by kernel_rfl) (by kernel_rfl) (fun _ _ _ h => h) (Or.inl ⟨by rfl, ?_⟩) hHeld ?_
    case refine_2 => (intro w hSw; (try dsimp only at hSw); (try (obtain ⟨s0, s1, s2, s3⟩ := hSw)); simp only [List.getElem_cons_zero, List.getElem_cons_succ]; go_simp <;> with_reducible rfl)
    simp only [List.getElem_cons_zero, List.getElem_cons_succ, Act.put, List.setIfInBounds_toArray, List.set_cons_zero, List.set_cons_succ]
    refine heldT_sole 10 (by simp) (by kernel_rfl) (fun K hK => ?_)
    simp only [List.getElem_cons_zero, List.getElem_cons_succ]
    go_simp
    refine (HCL.out).mono ?_
    rintro e W2 ⟨v5, rfl, hg5, hb5⟩
    obtain ⟨A5, c5, hv5, _⟩ := bs_shape hg5
    rw [HLTS.out] at hv5
    subst hv5
    have b0 := hb5.cell (p := ⟨blk, 0, none⟩) hbl1
    have b1 := hb5.cell (p := ⟨blk, 1, none⟩) hbl1
    rw [show W1.drew.cell? ⟨blk, 0, none⟩ = _ from e0] at b0
    rw [show W1.drew.cell? ⟨blk, 1, none⟩ = _ from e1] at b1
    have hb5' : Below W1.heap.size W1 W2 := (Below.refl _ W1).drew.trans hb5
    have hK2 : Blk W2 blk 83 _ := (hb5.block blk hbl1).trans HKF.out
    have b2 : W2.frozen? ⟨blk, 0, none⟩ = false := hK2.frozen 0
    have hfin := DiskAt.boot2 HD1.out hb5' HG1.out (v := .slice A5 s c5) (l := qb.take s) (by rw [HLTS.out]; exact Nat.le_refl _) (Got.of_own hg5)
    rw [(HPUT _).out] at hfin
    have HFIN := Lib.hid hfin
    clear hb5 hb5' hg5 hK2 hfin
    refine hK.out _ _ ⟨b0, b1, trivial, trivial⟩ (fun hHeld => ?_)
    clear hK K
    try simp only [Act.put, List.setIfInBounds_toArray, List.set_cons_zero, List.set_cons_succ]
    refine heldT_sole 11 (by simp) (by kernel_rfl) (fun K hK => ?_)
    simp only [List.getElem_cons_zero, List.getElem_cons_succ]
    go_simp
    refine hK.out _ _ ⟨b0, b1, trivial, trivial⟩ (fun hHeld => ?_)
    clear hK K
    try simp only [Act.put, List.setIfInBounds_toArray, List.set_cons_zero, List.set_cons_succ]
    refine heldT_sole 12 (by simp) (by kernel_rfl) (fun K hK => ?_)
    simp only [List.getElem_cons_zero, List.getElem_cons_succ]
    go_simp
    refine hK.out _ _ ⟨b0, b1, trivial, trivial⟩ (fun hHeld => ?_)
    clear hK K
    try simp only [Act.put, List.setIfInBounds_toArray, List.set_cons_zero, List.set_cons_succ]
    refine heldT_last (t := 13) (by simp) (by kernel_rfl) (by kernel_rfl) (fun K hK => ?_)
    simp only [List.getElem_cons_zero, List.getElem_cons_succ]
    go_simp
    refine hK.out _ _ ?_
    clear hK K hHeld b0 b1 b2 hcut HCL e0 e1
    have HFR := Lib.hid ((HF.out.trans HF1.out HK.out).trans HFIN.out.2.1 (fun j hj => by
     rcases HK1.out j hj with h | h
     ·exact HK.out j h
     ·exact .inr (Nat.le_trans HF.out.size h)))
    have HFK : Hid (∀ j, DFoot g m (asPut qn ⟨blk, .slice A5 s c5, ⟨qb.take s, s⟩⟩ es') j → DFoot g m es j ∨ w1.heap.size ≤ j) := Lib.hid (fun j hj => by
     rcases HFIN.out.2.2 j hj with h | h
     ·rcases HK1.out j h with h | h
      ·exact HK.out j h
      ·exact .inr (Nat.le_trans HF.out.size h)
     ·exact .inr (Nat.le_trans (Nat.le_trans HF.out.size HF1.out.size) h))
    have HSEC := Lib.hid (HSTEP.out s (.slice A5 s c5) HSUM.out.symm)
    have HD9 := Lib.hid HFIN.out.1
    clear HFIN HSTEP HD1 HG1 HF1 HK1 HPUT
    go_wp2_with fail
    go_roundw
    case rel => exact ⟨k + 1, _, by omega, by go_num, HD9, HSEC, HFR, HFK⟩
    case measure => simp [intOf]; omega
  ·have hke : k = es.length := by omega
   have hF2 : bootK z k (sec FE.f es) = ((dkOf p room es).boot z).fs := by
    rw [hke]
    show _ = bootK z (sec FE.f es).length (sec FE.f es)
    rw [sec_length]
   obtain ⟨w4, hw4⟩ : ∃ w4, w4 = (((wr.setCell ⟨g, 0, none⟩ (.bool false)).setCell ⟨g, 1, none⟩ (.bool false)).setCell ⟨g, 2, none⟩ (.int .i64 0)).setCell ⟨g, 3, none⟩ (.int .i64 0) := ⟨_, rfl⟩
   have hg1 : wr.grownBy w4 (some g) := by rw [hw4]; exact grown_then (grown_then (grown_then (grown_setCell wr g 0 _) (grown_setCell _ g 1 _) (.inl rfl)) (grown_setCell _ g 2 _) (.inl rfl)) (grown_setCell _ g 3 _) (.inl rfl)
   have HD2 := Lib.hid (HD.out.power (p' := ⟨false, false, 0, 0⟩) hg1 (by rw [hw4]; exact Blk.set_ (Blk.set_ (Blk.set_ (Blk.set_ HD.out.blk 0 _) 1 _) 2 _) 3 _) ⟨⟨by decide, by decide⟩, ⟨by decide, by decide⟩, HD.out.num.2.2⟩)
   have HFR := Lib.hid (HF.out.trans (Fr.of_grown (mine := DFoot g m es') hg1 (fun k e => by injection e with e; exact .inl e.symm)) HK.out)
   have HS2 := Lib.hid (HS.out.trans hF2)
   have HW4 := Lib.hid hw4
   clear hF2 hg1 hlen hw4
   go_wp2_with fail
   rw [← HW4.out]
   go_end0
   refine ⟨⟨_, rfl⟩, _, HD2.out, HS2.out, (Fr.of_below (DFoot g m es) HB1.out).trans HFR.out (fun j hj => .inl hj), fun j hj => ?_⟩
   rcases HK.out j hj with h | h
   ·exact .inl h
   ·exact .inr (Nat.le_trans hs1 h)
end
end Go.Proofs.YtgeofijddhflaaaGreatDoor
set_option linter.unusedVariables false
set_option linter.unusedSimpArgs false
namespace Go.Proofs.YtgeofijddhflaaaGreatDoor
open Go.RowKit Go.Maps Go.Sort Oct
section
variable {w w1 w2 wr w' : World} {base g m : Nat} {p p' : PWD} {room : Int} {es es' : List (Nm × FE)}
theorem rrow_frd {N : Nat} {v : Value} {rs : List (Nm × RF)} (h : RRow w N v rs) (hg : ∀ q ∈ rs, Got w N q.2.v q.2.f.b) : ∃ A c, v = .slice A rs.length c ∧ FRd w A rs := by
 rcases h.2 with ⟨hn, h0⟩ | ⟨b, cap, cur, hv, hb, hk, hc, hcm, hcs, hx⟩
 ·have : rs = [] := List.eq_nil_of_length_eq_zero h0
  subst this
  exact ⟨none, 0, hn, fun k hk => absurd hk (by simp), fun q hq => by cases hq⟩
 ·refine ⟨_, cap, hv, fun k hk' => ⟨b, rfl, (Array.getElem?_eq_some_iff.1 hk).1, ?_, ?_, ?_⟩, fun q hq => ?_⟩
  ·rw [World.ownsRow.cellAt (hv ▸ h) (k * 3) (by omega)]
   exact rfCells_at rs hk' (j := 0) (by omega)
  ·rw [World.ownsRow.cellAt (hv ▸ h) (k * 3 + 1) (by omega)]
   exact rfCells_at rs hk' (j := 1) (by omega)
  ·rw [World.ownsRow.cellAt (hv ▸ h) (k * 3 + 2) (by omega)]
   exact rfCells_at rs hk' (j := 2) (by omega)
  ·obtain ⟨Ax, cx, h1, _, _, h2⟩ := (hg q hq).shape
   exact ⟨Ax, cx, h1, h2⟩
set_option maxHeartbeats 8000000 in
set_option maxRecDepth 100000 in
theorem files_any (h : DiskAt w base g m p room es) (hl : es.length ≤ 549755813888) (hfe : ∀ q ∈ es, q.2.f.b.length ≤ 140737488351232) (hnm : ∀ q ∈ es, q.1.length ≤ 140737488351232) :
  Calls Tryz.prog 25 #[.pointer (some ⟨g, 0, none⟩)] w fun e w' => ∃ v rs, e = .returned v ∧ RRow w' w.heap.size v rs ∧ (∀ q ∈ rs, Got w' w.heap.size q.2.v q.2.f.b) ∧ sec RF.f rs = sec FE.f es ∧ Below w.heap.size w w' := by
 have HNM := Lib.hid (names_any h (by omega))
 have H := Lib.hid h
 have HFE := Lib.hid hfe
 have HNL := Lib.hid hnm
 clear h hfe hnm
 go_enter Tryz.func25, Tryz.ntmps25
 go_wp2_with fail
 refine HNM.out.mono ?_
 rintro e w1 ⟨vn, rfl, hvn, hb1⟩
 obtain ⟨An, cn, rfl, _, _, hrn⟩ := hvn.shape
 rw [List.length_map]
 have HN := Lib.hid hrn
 have HB1 := Lib.hid hb1
 have hs1 := hb1.size
 have HD := Lib.hid (H.out.below hb1)
 clear hvn hrn hb1 HNM
 go_wp2_with fail
 go_loopw [3, 9] (fun o i wr => ∃ (k : Nat) (rs : List (Nm × RF)), k ≤ es.length ∧ i = .int .i64 k ∧ Hid (RRow wr w1.heap.size o rs) ∧ Hid (∀ q ∈ rs, Got wr w1.heap.size q.2.v q.2.f.b) ∧ Hid (sec RF.f rs = (sec FE.f es).take k) ∧ Hid (Below w1.heap.size w1 wr)) (fun _ i _ => es.length - (intOf i).toNat)
 case atStart => exact ⟨0, [], by omega, rfl, Lib.hid (RRow.nil _ _), Lib.hid (fun q hq => by cases hq), Lib.hid rfl, Lib.hid (Below.refl _ _)⟩
 case round =>
  obtain ⟨k, rs, hk, rfl, HR, HG, HS, HB⟩ := hrel
  have hrl : rs.length ≤ k := by have := congrArg List.length HS.out; simp only [sec, List.length_map, List.length_take] at this; omega
  have hsB := HB.out.size
  obtain ⟨Ao, co, hov⟩ := HR.out.shape
  by_cases hlt : k < es.length
  ·have hDr := HD.out.below HB.out
   obtain ⟨⟨_, _, _, _, _, d5⟩, _⟩ := blk6_at hDr.blk
   have hm : es[k] ∈ es := List.getElem_mem hlt
   have hKF := hDr.file _ hm
   obtain ⟨Ax, cx, hv, hvl, hvc, hvr⟩ := (hDr.got _ hm).shape
   have hfl := HFE.out _ hm
   have hnl := HNL.out _ hm
   have hget := asGet_at hDr.rising hlt
   obtain ⟨adn, hAn, hadn, hcn⟩ := rd_at (f := fun q : Nm × FE => Value.string (str q.1)) HN.out hlt
   have hcn' : wr.cell? (adn.add k) = some (.string (str es[k].1)) := (World.cell?_of_block (w := w1) (by rw [block_of_add]; exact HB.out.block adn.block hadn)).trans hcn
   have HM := Lib.hid hDr.map
   have HLK : Hid (∀ W, MapAt Tryz.prog 9 W m (sec FE.blk es) → (Instr.lookup 59 (.map (some m)) (.string (str es[k].1)) false).run Tryz.prog W = .ok (.pointer (some ⟨es[k].2.blk, 0, none⟩)) W) := Lib.hid (fun W hW => by
    have hl := hW.get Tryz.underlying9 Tryz.underlying59 (zero_ptr W) (str es[k].1) (by rw [str_size]; unfold maxLen; omega)
    rw [str_data, asGet_sec, hget] at hl
    exact hl)
   have hgl : g < wr.heap.size := hDr.blk.lt
   have hgl1 : g < w1.heap.size := HD.out.blk.lt
   have hml1 : m < w1.heap.size := HD.out.map.lt
   have hblk1 := (HD.out.file _ hm).lt
   have HSN : Hid (∀ v, sec RF.f (rs ++ [(es[k].1, ⟨v, es[k].2.f⟩)]) = (sec FE.f es).take (k + 1)) := Lib.hid (fun v => by
    rw [List.take_succ_eq_append_getElem (by rw [sec_length]; exact hlt), ← HS.out]
    simp [sec])
   obtain ⟨q, hq⟩ : ∃ q, q = es[k] := ⟨_, rfl⟩
   rw [← hq] at hKF hv hvl hvr hfl hnl hcn' HLK HSN hblk1
   have e0 : wr.cell? ⟨q.2.blk, 0, none⟩ = some (.slice Ax q.2.f.b.length cx) := by rw [← hv]; exact hKF.cell 0
   have e1 : wr.cell? ⟨q.2.blk, 1, none⟩ = some (.int .i64 q.2.f.safe) := hKF.cell 1
   have hbl : q.2.blk < wr.heap.size := hKF.lt
   have HCL := Lib.hid (clone_any Ax q.2.f.b q.2.f.b.length cx rfl wr.drew (show Rd wr.drew wr.drew.heap.size Ax _ from hvr) hfl)
   have hkL : (k : Int) < (es.length : Int) := by omega
   obtain ⟨qn, blk, qv, qb, qs⟩ := q
   simp only at e0 e1 hbl hvl hfl hcn' HLK HCL HSN hblk1
   have hbl1 : blk < w1.heap.size := hblk1
   subst hAn
   subst hov
   clear hm hKF hv hvr hget hcn hq hadn hDr
   go_wp2_with fail
   refine wp_region_held_drew (by kernel_rfl) (S := fun W => W.cell? ⟨g, 5, none⟩ = some (.map (some m)) ∧ MapAt Tryz.prog 9 W m (sec FE.blk es) ∧ W.cell? ⟨blk, 0, none⟩ = some (.slice Ax qb.length cx) ∧ W.cell? ⟨blk, 1, none⟩ = some (.int .i64 (qs : Int))) ⟨d5, HM.out, e0, e1⟩ (fun hHeld => ?_)
   refine held_take 0 (v := ?_) (by simp) (by kernel_rfl) (by kernel_rfl) (by kernel_rfl) (fun _ _ _ h => h) (Or.inl ⟨by rfl, ?_⟩) hHeld ?_
   case refine_2 => (intro w hSw; (try dsimp only at hSw); (try (obtain ⟨s0, s1, s2, s3⟩ := hSw)); simp only [List.getElem_cons_zero]; go_simp <;> with_reducible rfl)
   simp only [List.getElem_cons_zero, Act.put, List.setIfInBounds_toArray, List.set_cons_zero, List.set_cons_succ]
   refine held_take 1 (v := ?_) (by simp) (by kernel_rfl) (by kernel_rfl) (by kernel_rfl) (fun _ _ _ h => h) (Or.inl ⟨by rfl, ?_⟩) hHeld ?_
   case refine_2 => (intro w hSw; (try dsimp only at hSw); (try (obtain ⟨s0, s1, s2, s3⟩ := hSw)); simp only [List.getElem_cons_zero, List.getElem_cons_succ]; go_simp <;> with_reducible rfl)
   simp only [List.getElem_cons_zero, List.getElem_cons_succ, Act.put, List.setIfInBounds_toArray, List.set_cons_zero, List.set_cons_succ]
   refine held_take 2 (v := ?_) (by simp) (by kernel_rfl) (by kernel_rfl) (by kernel_rfl) (fun _ _ _ h => h) (Or.inl ⟨by rfl, ?_⟩) hHeld ?_
   case refine_2 => (intro w hSw; (try dsimp only at hSw); (try (obtain ⟨s0, s1, s2, s3⟩ := hSw)); simp only [List.getElem_cons_zero, List.getElem_cons_succ]; go_simp <;> with_reducible rfl)
   simp only [List.getElem_cons_zero, List.getElem_cons_succ, Act.put, List.setIfInBounds_toArray, List.set_cons_zero, List.set_cons_succ]
   refine held_take 3 (v := ?_) (by simp) (by kernel_rfl) (by kernel_rfl) (by kernel_rfl) (fun _ _ _ h => h) (Or.inl ⟨by rfl, ?_⟩) hHeld ?_
   case refine_2 => (intro w hSw; (try dsimp only at hSw); (try (obtain ⟨s0, s1, s2, s3⟩ := hSw)); simp only [List.getElem_cons_zero, List.getElem_cons_succ]; go_simp <;> with_reducible rfl)
   simp only [List.getElem_cons_zero, List.getElem_cons_succ, Act.put, List.setIfInBounds_toArray, List.set_cons_zero, List.set_cons_succ]
   refine held_take 4 (v := ?_) (by simp) (by kernel_rfl) (by kernel_rfl) (by kernel_rfl) (fun _ _ _ h => h) (Or.inl ⟨by rfl, ?_⟩) hHeld ?_
   case refine_2 => (intro w hSw; (try dsimp only at hSw); (try (obtain ⟨s0, s1, s2, s3⟩ := hSw)); simp only [List.getElem_cons_zero, List.getElem_cons_succ]; go_simp <;> with_reducible rfl)
   simp only [List.getElem_cons_zero, List.getElem_cons_succ, Act.put, List.setIfInBounds_toArray, List.set_cons_zero, List.set_cons_succ]
   refine held_take 5 (v := ?_) (by simp) (by kernel_rfl) (by kernel_rfl) (by kernel_rfl) (fun _ _ _ h => h) (Or.inl ⟨by rfl, ?_⟩) hHeld ?_
   case refine_2 => (intro w hSw; (try dsimp only at hSw); (try (obtain ⟨s0, s1, s2, s3⟩ := hSw)); simp only [List.getElem_cons_zero, List.getElem_cons_succ]; go_simp <;> with_reducible rfl)
   simp only [List.getElem_cons_zero, List.getElem_cons_succ, Act.put, List.setIfInBounds_toArray, List.set_cons_zero, List.set_cons_succ]
   refine held_take 6 (v := ?_) (by simp) (by kernel_rfl) (by kernel_rfl) (by kernel_rfl) (fun _ _ _ h => h) (Or.inl ⟨by rfl, ?_⟩) hHeld ?_
   case refine_2 => (intro w hSw; (try dsimp only at hSw); (try (obtain ⟨s0, s1, s2, s3⟩ := hSw)); simp only [List.getElem_cons_zero, List.getElem_cons_succ]; go_simp <;> with_reducible rfl)
   simp only [List.getElem_cons_zero, List.getElem_cons_succ, Act.put, List.setIfInBounds_toArray, List.set_cons_zero, List.set_cons_succ]
   refine held_take 7 (v := ?_) (by simp) (by kernel_rfl) (by kernel_rfl) (by kernel_rfl) (fun _ _ _ h => h) (Or.inl ⟨by rfl, ?_⟩) hHeld ?_
   case refine_2 => (intro w hSw; (try dsimp only at hSw); obtain ⟨s0, s1, s2, s3⟩ := hSw; have hl := HLK.out w s1; simp only [List.getElem_cons_zero, List.getElem_cons_succ]; go_simp <;> with_reducible rfl)
   simp only [List.getElem_cons_zero, List.getElem_cons_succ, Act.put, List.setIfInBounds_toArray, List.set_cons_zero, List.set_cons_succ]
   refine held_take 8 (v := ?_) (by simp) (by kernel_rfl) (by kernel_rfl) (by kernel_rfl) (fun _ _ _ h => h) (Or.inl ⟨by rfl, ?_⟩) hHeld ?_
   case refine_2 => (intro w hSw; (try dsimp only at hSw); (try (obtain ⟨s0, s1, s2, s3⟩ := hSw)); simp only [List.getElem_cons_zero, List.getElem_cons_succ]; go_simp <;> with_reducible rfl)
   simp only [List.getElem_cons_zero, List.getElem_cons_succ, Act.put, List.setIfInBounds_toArray, List.set_cons_zero, List.set_cons_succ]
   refine held_take 9 (v := ?_) (by simp) (by kernel_rfl) (by kernel_rfl) (by kernel_rfl) (fun _ _ _ h => h) (Or.inl ⟨by rfl, ?_⟩) hHeld ?_
   case refine_2 => (intro w hSw; (try dsimp only at hSw); (try (obtain ⟨s0, s1, s2, s3⟩ := hSw)); simp only [List.getElem_cons_zero, List.getElem_cons_succ]; go_simp <;> with_reducible rfl)
   simp only [List.getElem_cons_zero, List.getElem_cons_succ, Act.put, List.setIfInBounds_toArray, List.set_cons_zero, List.set_cons_succ]
   refine held_take 10 (v := ?_) (by simp) (by kernel_rfl) (by kernel_rfl) (by kernel_rfl) (fun _ _ _ h => h) (Or.inl ⟨by rfl, ?_⟩) hHeld ?_
   case refine_2 => (intro w hSw; (try dsimp only at hSw); (try (obtain ⟨s0, s1, s2, s3⟩ := hSw)); simp only [List.getElem_cons_zero, List.getElem_cons_succ]; go_simp <;> with_reducible rfl)
   simp only [List.getElem_cons_zero, List.getElem_cons_succ, Act.put, List.setIfInBounds_toArray, List.set_cons_zero, List.set_cons_succ]
   refine held_take 12 (v := ?_) (by simp) (by kernel_rfl) (by kernel_rfl) (by kernel_rfl) (fun _ _ _ h => h) (Or.inl ⟨by rfl, ?_⟩) hHeld ?_
   case refine_2 => (intro w hSw; (try dsimp only at hSw); (try (obtain ⟨s0, s1, s2, s3⟩ := hSw)); simp only [List.getElem_cons_zero, List.getElem_cons_succ]; go_simp <;> with_reducible rfl)
   simp only [List.getElem_cons_zero, List.getElem_cons_succ, Act.put, List.setIfInBounds_toArray, List.set_cons_zero, List.set_cons_succ]
   refine held_take 13 (v := ?_) (by simp) (by kernel_rfl) (by kernel_rfl) (by kernel_rfl) (fun _ _ _ h => h) (Or.inl ⟨by rfl, ?_⟩) hHeld ?_
   case refine_2 => (intro w hSw; (try dsimp only at hSw); (try (obtain ⟨s0, s1, s2, s3⟩ := hSw)); simp only [List.getElem_cons_zero, List.getElem_cons_succ]; go_simp <;> with_reducible rfl)
   simp only [List.getElem_cons_zero, List.getElem_cons_succ, Act.put, List.setIfInBounds_toArray, List.set_cons_zero, List.set_cons_succ]
   refine held_take 14 (v := ?_) (by simp) (by kernel_rfl) (by kernel_rfl) (by kernel_rfl) (fun _ _ _ h => h) (Or.inl ⟨by rfl, ?_⟩) hHeld ?_
   case refine_2 => (intro w hSw; (try dsimp only at hSw); (try (obtain ⟨s0, s1, s2, s3⟩ := hSw)); simp only [List.getElem_cons_zero, List.getElem_cons_succ]; go_simp <;> with_reducible rfl)
   simp only [List.getElem_cons_zero, List.getElem_cons_succ, Act.put, List.setIfInBounds_toArray, List.set_cons_zero, List.set_cons_succ]
   refine held_take 15 (v := ?_) (by simp) (by kernel_rfl) (by kernel_rfl) (by kernel_rfl) (fun _ _ _ h => h) (Or.inl ⟨by rfl, ?_⟩) hHeld ?_
   case refine_2 => (intro w hSw; (try dsimp only at hSw); (try (obtain ⟨s0, s1, s2, s3⟩ := hSw)); simp only [List.getElem_cons_zero, List.getElem_cons_succ]; go_simp <;> with_reducible rfl)
   simp only [List.getElem_cons_zero, List.getElem_cons_succ, Act.put, List.setIfInBounds_toArray, List.set_cons_zero, List.set_cons_succ]
   refine held_take 16 (v := ?_) (by simp) (by kernel_rfl) (by kernel_rfl) (by kernel_rfl) (fun _ _ _ h => h) (Or.inl ⟨by rfl, ?_⟩) hHeld ?_
   case refine_2 => (intro w hSw; (try dsimp only at hSw); (try (obtain ⟨s0, s1, s2, s3⟩ := hSw)); simp only [List.getElem_cons_zero, List.getElem_cons_succ]; go_simp <;> with_reducible rfl)
   simp only [List.getElem_cons_zero, List.getElem_cons_succ, Act.put, List.setIfInBounds_toArray, List.set_cons_zero, List.set_cons_succ]
   refine held_take 17 (v := ?_) (by simp) (by kernel_rfl) (by kernel_rfl) (by kernel_rfl) (fun _ _ _ h => h) (Or.inl ⟨by rfl, ?_⟩) hHeld ?_
   case refine_2 => (intro w hSw; (try dsimp only at hSw); obtain ⟨s0, s1, s2, s3⟩ := hSw; have hl := HLK.out w s1; simp only [List.getElem_cons_zero, List.getElem_cons_succ]; go_simp <;> with_reducible rfl)
   simp only [List.getElem_cons_zero, List.getElem_cons_succ, Act.put, List.setIfInBounds_toArray, List.set_cons_zero, List.set_cons_succ]
   refine held_take 18 (v := ?_) (by simp) (by kernel_rfl) (by kernel_rfl) (by kernel_rfl) (fun _ _ _ h => h) (Or.inl ⟨by rfl, ?_⟩) hHeld ?_
   case refine_2 => (intro w hSw; (try dsimp only at hSw); (try (obtain ⟨s0, s1, s2, s3⟩ := hSw)); simp only [List.getElem_cons_zero, List.getElem_cons_succ]; go_simp <;> with_reducible rfl)
   simp only [List.getElem_cons_zero, List.getElem_cons_succ, Act.put, List.setIfInBounds_toArray, List.set_cons_zero, List.set_cons_succ]
   refine held_take 19 (v := ?_) (by simp) (by kernel_rfl) (by kernel_rfl) (by kernel_rfl) (fun _ _ _ h => h) (Or.inl ⟨by rfl, ?_⟩) hHeld ?_
   case refine_2 => (intro w hSw; (try dsimp only at hSw); (try (obtain ⟨s0, s1, s2, s3⟩ := hSw)); simp only [List.getElem_cons_zero, List.getElem_cons_succ]; go_simp <;> with_reducible rfl)
   simp only [List.getElem_cons_zero, List.getElem_cons_succ, Act.put, List.setIfInBounds_toArray, List.set_cons_zero, List.set_cons_succ]
   refine held_take 20 (v := ?_) (by simp) (by kernel_rfl) (by kernel_rfl) (by kernel_rfl) (fun _ _ _ h => h) (Or.inl ⟨by rfl, ?_⟩) hHeld ?_
   case refine_2 => (intro w hSw; (try dsimp only at hSw); (try (obtain ⟨s0, s1, s2, s3⟩ := hSw)); simp only [List.getElem_cons_zero, List.getElem_cons_succ]; go_simp <;> with_reducible rfl)
   simp only [List.getElem_cons_zero, List.getElem_cons_succ, Act.put, List.setIfInBounds_toArray, List.set_cons_zero, List.set_cons_succ]
   refine held_sole 11 (by simp) (by kernel_rfl) (fun K hK => ?_)
   simp only [List.getElem_cons_zero, List.getElem_cons_succ]
   go_simp
   refine HCL.out.mono ?_
   rintro e W2 ⟨v5, rfl, hg5, hb5⟩
   obtain ⟨A5, c5, hv5, _⟩ := bs_shape hg5
   subst hv5
   have hs5 : wr.heap.size ≤ W2.heap.size := hb5.size
   have b0 := hb5.cell (p := ⟨g, 5, none⟩) hgl
   have b1 := hb5.cell (p := ⟨blk, 0, none⟩) hbl
   have b2 := hb5.cell (p := ⟨blk, 1, none⟩) hbl
   rw [show wr.drew.cell? ⟨g, 5, none⟩ = _ from d5] at b0
   rw [show wr.drew.cell? ⟨blk, 0, none⟩ = _ from e0] at b1
   rw [show wr.drew.cell? ⟨blk, 1, none⟩ = _ from e1] at b2
   have hM2 : MapAt Tryz.prog 9 W2 m (sec FE.blk es) := HM.out.keep (hb5.block m HM.out.lt)
   have hb5' : Below wr.heap.size wr W2 := (Below.refl _ wr).drew.trans hb5
   have HG5 := Lib.hid (Got.of_own hg5)
   have HB5 := Lib.hid hb5'
   clear hg5 hb5 hb5'
   refine hK.out _ _ ⟨b0, hM2, b1, b2⟩ (fun hHeld => ?_)
   clear hK K
   try simp only [Act.put, List.setIfInBounds_toArray, List.set_cons_zero, List.set_cons_succ]
   refine held_sole 21 (by simp) (by kernel_rfl) (fun K hK => ?_)
   simp only [List.getElem_cons_zero, List.getElem_cons_succ]
   go_simp
   refine hK.out _ _ ⟨b0, hM2, b1, b2⟩ (fun hHeld => ?_)
   clear hK K
   try simp only [Act.put, List.setIfInBounds_toArray, List.set_cons_zero, List.set_cons_succ]
   refine held_sole 22 (by simp) (by kernel_rfl) (fun K hK => ?_)
   simp only [List.getElem_cons_zero, List.getElem_cons_succ]
   go_simp
   have a0 : (W2.alloc (.cells #[.string (str qn), .slice A5 qb.length c5, .int .i64 (qs : Int)] 85)).cell? ⟨g, 5, none⟩ = some (.map (some m)) := (World.cell?_alloc_lt W2 _ ⟨g, 5, none⟩ (by show g < _; omega)).trans b0
   have a1 : (W2.alloc (.cells #[.string (str qn), .slice A5 qb.length c5, .int .i64 (qs : Int)] 85)).cell? ⟨blk, 0, none⟩ = some (.slice Ax qb.length cx) := (World.cell?_alloc_lt W2 _ ⟨blk, 0, none⟩ (by show blk < _; omega)).trans b1
   have a2 : (W2.alloc (.cells #[.string (str qn), .slice A5 qb.length c5, .int .i64 (qs : Int)] 85)).cell? ⟨blk, 1, none⟩ = some (.int .i64 (qs : Int)) := (World.cell?_alloc_lt W2 _ ⟨blk, 1, none⟩ (by show blk < _; omega)).trans b2
   have aM : MapAt Tryz.prog 9 (W2.alloc (.cells #[.string (str qn), .slice A5 qb.length c5, .int .i64 (qs : Int)] 85)) m (sec FE.blk es) := hM2.keep (Below.heap_alloc _ _ _ hM2.lt)
   refine hK.out _ _ ⟨a0, aM, a1, a2⟩ (fun hHeld => ?_)
   clear hK K
   try simp only [Act.put, List.setIfInBounds_toArray, List.set_cons_zero, List.set_cons_succ]
   refine held_sole 23 (by simp) (by kernel_rfl) (fun K hK => ?_)
   simp only [List.getElem_cons_zero, List.getElem_cons_succ]
   rw [if_pos (by rfl)]
   refine wp_append_size (.tmp 13) (.tmp 35) 68 rfl w1.heap.size 85 (.agg #[.string ⟨#[]⟩, .slice none 0 0, .int .i64 0]) 3 48 Tryz.underlying68 info_file rfl (by decide) _ rs.length _ rfl ((HR.out.below HB5.out).below ((Below.refl _ W2).alloc (Nat.le_refl _) _)) ⟨W2.heap.size, 0, none⟩ 1 1 [.string (str qn), .slice A5 qb.length c5, .int .i64 (qs : Int)] rfl rfl (blk_cells_at (Blk.new _ 85 _)) (by simp [Value.oneCell']) (by unfold maxLen; omega) (by omega) (by simp; omega) ?_
   intro v6 W6 hrow6 hg6 _
   obtain ⟨r1, r2⟩ := RRow.push (wr := W2) (q := (qn, ⟨.slice A5 qb.length c5, ⟨qb, qs⟩⟩)) (HB.out.trans (HB5.out.mono hsB)) (by omega) (HR.out.below HB5.out) rfl hrow6 hg6
   have hrn : ∀ j, (Value.slice Ao rs.length co).ownBlock = some j → j < wr.heap.size := fun j hj => (HR.out.lt j hj).2
   have hgk : ∀ j, j < W2.heap.size → (Value.slice Ao rs.length co).ownBlock ≠ some j → W6.heap[j]? = W2.heap[j]? := fun j hj hne => (hg6.block j (by simp; omega) (fun e => hne e.symm)).trans (Below.heap_alloc W2 _ j hj)
   have hsz6 : W2.heap.size ≤ W6.heap.size := by have := hg6.size; simp at this; omega
   have HGN : Hid (∀ q ∈ rs ++ [((qn, ⟨.slice A5 qb.length c5, ⟨qb, qs⟩⟩) : Nm × RF)], Got W6 w1.heap.size q.2.v q.2.f.b) := Lib.hid (fun q hq => by
    rcases List.mem_append.1 hq with hq | hq
    ·have h1 := (HG.out q hq).below HB5.out (Nat.le_refl _)
     exact h1.kept (fun j hj => hgk j (h1.row.lt j hj) (row_got_ne HR.out (HG.out q hq) (by decide) j hj)) hsz6
    ·rw [List.mem_singleton.1 hq]
     have h1 : Got W2 wr.heap.size (.slice A5 qb.length c5) qb := HG5.out
     exact (h1.mono hsB).kept (fun j hj => hgk j (h1.row.lt j hj) (fun e => by have h2 := hrn j e; have h3 := h1.row.base j hj; omega)) hsz6)
   obtain ⟨A6, c6, hv6⟩ := r1.shape
   rw [List.length_append, List.length_singleton] at hv6
   subst hv6
   have f0 := (r2.cell (p := ⟨g, 5, none⟩) hgl1).trans ((HB.out.cell (p := ⟨g, 5, none⟩) hgl1).symm.trans d5)
   have f1 := (r2.cell (p := ⟨blk, 0, none⟩) hbl1).trans ((HB.out.cell (p := ⟨blk, 0, none⟩) hbl1).symm.trans e0)
   have f2 := (r2.cell (p := ⟨blk, 1, none⟩) hbl1).trans ((HB.out.cell (p := ⟨blk, 1, none⟩) hbl1).symm.trans e1)
   have fM : MapAt Tryz.prog 9 W6 m (sec FE.blk es) := HM.out.keep ((r2.block m hml1).trans (HB.out.block m hml1).symm)
   have HR6 := Lib.hid r1
   have HB6 := Lib.hid r2
   have HS6 := Lib.hid (HSN.out (.slice A5 qb.length c5))
   clear r1 r2 hrow6 hg6 hgk hrn
   refine hK.out _ _ ⟨f0, fM, f1, f2⟩ (fun hHeld => ?_)
   clear hK K
   try simp only [Act.put, List.setIfInBounds_toArray, List.set_cons_zero, List.set_cons_succ]
   refine held_sole 24 (by simp) (by kernel_rfl) (fun K hK => ?_)
   simp only [List.getElem_cons_zero, List.getElem_cons_succ]
   go_simp
   refine hK.out _ _ ⟨f0, fM, f1, f2⟩ (fun hHeld => ?_)
   clear hK K
   try simp only [Act.put, List.setIfInBounds_toArray, List.set_cons_zero, List.set_cons_succ]
   refine wpAnyH_done (by kernel_rfl) ?_ _
   clear hHeld f0 fM f1 f2 a0 a1 a2 aM b0 b1 b2 hM2 HCL HLK HSN
   go_wp2_with fail
   go_roundw
   case rel => exact ⟨k + 1, _, by omega, by go_num, HR6, HGN, HS6, HB6⟩
   case measure => simp [intOf]; omega
  ·have e : sec RF.f rs = sec FE.f es := by rw [HS.out]; exact List.take_of_length_le (by rw [sec_length]; omega)
   have HE := Lib.hid e
   subst hov
   clear e
   go_wp2_with fail
   go_ret
   exact ⟨_, rs, rfl, row_mono HR.out hs1, fun q hq => (HG.out q hq).mono hs1, HE.out, HB1.out.trans (HB.out.mono hs1)⟩
end
end Go.Proofs.YtgeofijddhflaaaGreatDoor
