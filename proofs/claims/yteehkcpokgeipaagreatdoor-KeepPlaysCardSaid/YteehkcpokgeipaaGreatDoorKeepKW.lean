/- The calls on the two disks, at the pair of them (pavanelaw23.KeepPlays). Condition: the disks within bounds. -/
import Derived.Test.YteehkcpokgeipaaGreatDoorKeepLoad
import Derived.Test.YteehkcpokgeipaaGreatDoorKeepROpen
import Derived.Test.YteehkcpokgeipaaGreatDoorKeepList
import Derived.Test.YteehkcpokgeipaaGreatDoorRDiskBoot
import Derived.Test.YteehkcpokgeipaaGreatDoorKeepTwoR
import Derived.Test.YteehkcpokgeipaaGreatDoorRDiskSame
import Derived.Test.YteehkcpokgeipaaGreatDoorKeepRSave
import Derived.Test.YteehkcpokgeipaaGreatDoorDiskFiles
import Derived.Test.YteehkcpokgeipaaGreatDoorDiskCut
import Derived.Test.YteehkcpokgeipaaGreatDoorRDiskApp
import Derived.Test.YteehkcpokgeipaaGreatDoorKeepSame
import Derived.Test.YteehkcpokgeipaaGreatDoorHeld
set_option linter.unusedVariables false
set_option linter.unusedSimpArgs false
namespace Go.Proofs.YteehkcpokgeipaaGreatDoor
open Go.RowKit Go.Maps Go.Sort Oct
set_option maxRecDepth 100000 in
theorem results_rload {fn : Func} (h : fn.results = #[.cell 2 29, .tmp 3, .tmp 4]) (tmps : Array Value) (W : World) (g : Nat) (a b c d : Value) (hp : tmps[2]?.getD undef = .pointer (some ⟨g, 0, none⟩)) (hB : Blk W g 29 #[a, b, c, d]) :
  (results fn tmps).run Tryz.prog W = .ok (.tuple #[.agg #[a, b, c, d], tmps.getD 3 undef, tmps.getD 4 undef]) W := by
 obtain ⟨e0, e1, e2, e3, f0, f1, f2, f3⟩ := blk4_cells hB
 simp [results, h, go_sem, hp, e0, e1, e2, e3]
set_option maxHeartbeats 8000000 in
set_option maxRecDepth 100000 in
theorem rkload_any {w : World} {base g : Nat} {p : PWD} {room : Int} {vL : Value} {es : List (Nm × RF)} (h : RDiskAt w base g p room vL es) (hl : es.length ≤ 1000000000) (hn : ∀ q ∈ es, q.1.length ≤ 1000) (hfe : ∀ q ∈ es, q.2.f.b.length ≤ 40000000) :
  Calls Tryz.prog 34 #[.pointer (some ⟨g, 0, none⟩)] w fun e w' => ∃ V, e = .returned (.tuple #[V, .bool (loadO (rkOf p room es)).isSome, .int .i64 (loadE (rkOf p room es))]) ∧ SnapR w' w.heap.size V (sI (loadO (rkOf p room es))) (sT (loadO (rkOf p room es))) (sZ (loadO (rkOf p room es))) (sD (loadO (rkOf p room es))) ∧ Below w.heap.size w w' := by
 obtain ⟨w0, hw0⟩ : ∃ w0, w0 = w.alloc (.cells #[.int .i64 0, .int .i64 0, .slice none 0 0, .slice none 0 0] 29) := ⟨_, rfl⟩
 have hb0 : Below w.heap.size w w0 := by rw [hw0]; exact (Below.refl _ w).alloc (Nat.le_refl _) _
 have hK0 : Blk w0 w.heap.size 29 #[.int .i64 0, .int .i64 0, .slice none 0 0, .slice none 0 0] := by rw [hw0]; exact Blk.new w 29 _
 have hs0 : w.heap.size < w0.heap.size := hK0.lt
 have hD0 := h.below hb0
 have HLI := Lib.hid (rlist_any hD0 (by omega) hn)
 obtain ⟨x, y, hb, hxy, hx, hy⟩ := hD0.blk
 obtain ⟨⟨c0, c1, c2, c3, c4, c5⟩, _⟩ := rblk6 hb
 have HD0 := Lib.hid hD0
 have HFE := Lib.hid hfe
 have HW0 := Lib.hid hw0
 have HB0 := Lib.hid hb0
 have HK0 := Lib.hid hK0
 obtain ⟨R, hR⟩ : ∃ R, R = loadO (rkOf p room es) := ⟨_, rfl⟩
 have HR := Lib.hid hR
 have KF := Lib.hid ((((Blk.set_ hK0 0 (.int .i64 0)).set_ 1 (.int .i64 0)).set_ 2 (.slice none 0 0)).set_ 3 (.slice none 0 0))
 have hbF := Lib.hid ((((hb0.setCell (p := ⟨w.heap.size, 0, none⟩) (Nat.le_refl _) (.int .i64 0)).setCell (p := ⟨w.heap.size, 1, none⟩) (Nat.le_refl _) (.int .i64 0)).setCell (p := ⟨w.heap.size, 2, none⟩) (Nat.le_refl _) (.slice none 0 0)).setCell (p := ⟨w.heap.size, 3, none⟩) (Nat.le_refl _) (.slice none 0 0))
 obtain ⟨d0, d1, d2, d3, f0, f1, f2, f3⟩ := blk4_cells hK0
 rw [← hR]
 clear h hfe hw0 hb0 hK0 hD0 hb hxy hx hy hR c0 c1 c3 c4 c5 hn
 by_cases ho : p.off = true
 ·have hRn : R = none := by rw [HR.out]; unfold loadO; rw [if_pos ho]
  have hE : loadE (rkOf p room es) = 50 := by unfold loadE; rw [if_pos ho]
  rw [hE]
  rw [ho] at c2
  subst hRn
  clear HR hE HLI ho
  go_enter Tryz.func34, Tryz.ntmps34
  go_upto_region 1 with (fail)
  rw [← HW0.out]
  go_wp2_with fail
  refine bodyPost_ret (results_rload (fn := Tryz.f34) rfl _ _ w.heap.size _ _ _ _ rfl KF.out) rfl ?_
  exact ⟨_, rfl, snapR_zero _ _, hbF.out⟩
 ·have ho' : p.off = false := by simpa using ho
  rw [ho'] at c2
  obtain ⟨L, hL⟩ : ∃ L, L = idxL (es.map (·.1)) := ⟨_, rfl⟩
  have hR2 : R = loadF (rkOf p room es) L.reverse := by
   have e : (rkOf p room es).fs.map (·.1) = es.map (·.1) := by
    show (sec RF.f es).map (·.1) = _
    rw [List.map_map]
    rfl
   rw [HR.out]
   unfold loadO
   rw [if_neg (by rw [ho']; simp), e, ← hL]
  have hLm : ∀ n ∈ L, 0 ≤ n ∧ n ≤ 1099511627776 := fun n hn => idxL_mem (by rw [← hL]; exact hn)
  have hLl : L.length ≤ 1000000000 := by rw [hL]; have := idxL_len (es.map (·.1)); rw [List.length_map] at this; omega
  have hE : loadE (rkOf p room es) = 0 := by unfold loadE; rw [if_neg (by rw [ho']; simp)]
  rw [hE]
  rw [← hL] at HLI
  have HLM := Lib.hid hLm
  have HR2 := Lib.hid hR2
  clear HR hE ho ho' hL hLm hR2
  go_enter Tryz.func34, Tryz.ntmps34
  go_upto_region 1 with (fail)
  rw [← HW0.out]
  go_wp2_with fail
  refine HLI.out.mono ?_
  rintro e w2 ⟨v2, rfl, hO2, hb2⟩
  obtain ⟨A2, cc, rfl, hc1, hc2, hr2⟩ := Own.shape hO2
  rw [List.length_map] at *
  have hs2 := hb2.size
  have HB2 := Lib.hid (HB0.out.trans (hb2.mono (by omega)))
  have HK2 := Lib.hid (HK0.out.below hb2 (by omega))
  have HD2 := Lib.hid (HD0.out.below hb2)
  have HR2' := Lib.hid hr2
  have hws : w.heap.size < w2.heap.size := by omega
  clear hO2 hb2 hr2 HLI c2 d0 d1 d2 d3 f0 f1 f2 f3 HK0 HB0 KF hbF HD0
  go_wp2_with fail
  go_loopw [6, 7, 8, 9, 10] (fun i _ _ _ _ wr => ∃ k : Nat, k ≤ L.length ∧ i = .int .i64 ((k : Int) - 1) ∧ Hid (Below w2.heap.size w2 wr) ∧ Hid (R = loadF (rkOf p room es) (L.take k).reverse)) (fun i _ _ _ _ _ => (intOf i + 1).toNat)
  case atStart => exact ⟨L.length, by omega, by go_num, Lib.hid (Below.refl _ _), Lib.hid (by rw [List.take_length]; exact HR2.out)⟩
  case round =>
   obtain ⟨k, hk, rfl, HB, HRk⟩ := hrel
   have hsB := HB.out.size
   have HBw := Lib.hid (HB2.out.trans (HB.out.mono (by omega)))
   have HKw := Lib.hid (HK2.out.below HB.out (by omega))
   by_cases hk0 : k = 0
   ·subst hk0
    have hRn : R = none := by rw [HRk.out]; rfl
    subst hRn
    have e0 : (((0 : Nat) : Int) - 1) = -1 := by omega
    rw [e0]
    have KF := Lib.hid ((((Blk.set_ HKw.out 0 (.int .i64 0)).set_ 1 (.int .i64 0)).set_ 2 (.slice none 0 0)).set_ 3 (.slice none 0 0))
    have hbF := Lib.hid ((((HBw.out.setCell (p := ⟨w.heap.size, 0, none⟩) (Nat.le_refl _) (.int .i64 0)).setCell (p := ⟨w.heap.size, 1, none⟩) (Nat.le_refl _) (.int .i64 0)).setCell (p := ⟨w.heap.size, 2, none⟩) (Nat.le_refl _) (.slice none 0 0)).setCell (p := ⟨w.heap.size, 3, none⟩) (Nat.le_refl _) (.slice none 0 0))
    obtain ⟨d0, d1, d2, d3, f0, f1, f2, f3⟩ := blk4_cells HKw.out
    clear e0 HB HRk HKw HBw HR2
    go_wp2_with fail
    refine bodyPost_ret (results_rload (fn := Tryz.f34) rfl _ _ w.heap.size _ _ _ _ rfl KF.out) rfl ?_
    exact ⟨_, rfl, snapR_zero _ _, hbF.out⟩
   ·obtain ⟨j, rfl⟩ : ∃ j, k = j + 1 := ⟨k - 1, by omega⟩
    have hj : j < L.length := by omega
    have ej : ((j + 1 : Nat) : Int) - 1 = (j : Int) := by omega
    obtain ⟨ad, rfl, had, hcell⟩ := rd_at HR2'.out hj
    have HC : Hid (∀ W : World, Below w2.heap.size w2 W → W.cell? (ad.add j) = some (.int .i64 L[j])) := Lib.hid (fun W hb => (World.cell?_of_block (w := w2) (by rw [block_of_add]; exact hb.block ad.block had)).trans hcell)
    have hnr := HLM.out _ (List.getElem_mem hj)
    have HST := Lib.hid (show R = if openB ((rkOf p room es).read (sName L[j])).1 L[j] = true then some (allS ((rkOf p room es).read (sName L[j])).1) else loadF (rkOf p room es) (L.take j).reverse by
     rw [HRk.out, List.take_succ_eq_append_getElem hj, List.reverse_append, List.reverse_singleton, List.singleton_append]
     rfl)
    clear hcell
    generalize L[j] = nj at HC hnr HST
    have hcell1 := HC.out wr HB.out
    rw [ej]
    have hjI : (j : Int) < (L.length : Int) := by omega
    have HNA := Lib.hid (rkname_any nj (by omega) wr)
    obtain ⟨B, hB⟩ : ∃ B, B = ((rkOf p room es).read (sName nj)).1 := ⟨_, rfl⟩
    have hBl : B.length ≤ 40000000 := by
     rw [hB]
     unfold DkD.read
     split
     ·simp
     ·split
      ·simp
      ·rename_i f hf
       obtain ⟨q, hq, e⟩ := List.mem_map.1 (asGet_some hf)
       injection e with e1 e2
       have := HFE.out q hq
       rw [← e2]
       exact this
    rw [← hB] at HST
    have HBB := Lib.hid hB
    clear ej hB HRk hk0
    go_wp2_with fail
    refine HNA.out.mono ?_
    rintro e w3 ⟨rfl, hb3⟩
    have hs3 := hb3.size
    have HB3 := Lib.hid (HB.out.trans (hb3.mono (by omega)))
    have hRE := rdread_any (HD2.out.below HB3.out) (sName nj) (by omega) (fun q hq => by have := HFE.out q hq; omega)
    rw [← HBB.out] at hRE
    have HRE := Lib.hid hRE
    clear hb3 HNA hRE hcell1
    go_wp2_with fail
    refine HRE.out.mono ?_
    rintro e w4 ⟨v4, rfl, hg4, hb4⟩
    obtain ⟨A4, c4, rfl, hc4a, hc4b, hr4⟩ := hg4.shape
    have hs4 := hb4.size
    have HB4 := Lib.hid (HB3.out.trans (hb4.mono (by omega)))
    have HOP := Lib.hid (rkopen_any A4 B c4 nj w4 hr4 hc4a (by omega) hBl)
    have hcell4 := HC.out w4 HB4.out
    clear hg4 hb4 hr4 HRE
    go_wp2_with fail
    refine HOP.out.mono ?_
    rintro e w5 ⟨V, i5, t5, z5, l5, rfl, hS, hok, hb5⟩
    obtain ⟨xx, yy, rfl, hz5, hd5, hap5⟩ := hS
    obtain ⟨Ax, cx, ex, _⟩ := Own.shape hz5
    obtain ⟨Ay, cy, ey, _⟩ := bs_shape hd5
    rw [List.length_map] at ex
    subst ex ey
    have hs5 := hb5.size
    obtain ⟨w6, hw6⟩ : ∃ w6, w6 = w5.alloc (.cells #[.int .i64 i5, .int .i64 t5, .slice Ax z5.length cx, .slice Ay l5.length cy] 29) := ⟨_, rfl⟩
    have hb6 : Below w5.heap.size w5 w6 := by rw [hw6]; exact (Below.refl _ w5).alloc (Nat.le_refl _) _
    have hK6 : Blk w6 w5.heap.size 29 #[.int .i64 i5, .int .i64 t5, .slice Ax z5.length cx, .slice Ay l5.length cy] := by rw [hw6]; exact Blk.new w5 29 _
    have hs6 := hb6.size
    have HB6 := Lib.hid ((HB4.out.trans (hb5.mono (by omega))).trans (hb6.mono (by omega)))
    have HZ6 := Lib.hid (Own.below hz5 hb6 (Nat.le_refl _))
    have HD6 := Lib.hid (Own.below hd5 hb6 (Nat.le_refl _))
    have HAP := Lib.hid hap5
    have HW6 := Lib.hid hw6
    obtain ⟨g0, g1, g2, g3, _⟩ := blk4_cells hK6
    have HK6 := Lib.hid (HK2.out.below HB6.out (by omega))
    have HOK := Lib.hid hok
    clear hz5 hd5 hap5 hb5 hb6 hK6 hw6 HOP hok hcell4
    go_upto_region 9 with (fail)
    rw [← HW6.out]
    by_cases hop : openB B nj = true
    ·obtain ⟨rfl, rfl, rfl, rfl⟩ := HOK.out hop
     have hRs : R = some (allS B) := by rw [HST.out, if_pos hop]
     rw [hop]
     subst hRs
     obtain ⟨d0, d1, d2, d3, f0, f1, f2, f3⟩ := blk4_cells HK6.out
     have KF := Lib.hid ((((Blk.set_ HK6.out 0 (.int .i64 (oI (allS B)))).set_ 1 (.int .i64 (oT (allS B)))).set_ 2 (.slice Ax (oZ (allS B)).length cx)).set_ 3 (.slice Ay (oD (allS B)).length cy))
     have hg9 : w6.grownBy ((((w6.setCell ⟨w.heap.size, 0, none⟩ (.int .i64 (oI (allS B)))).setCell ⟨w.heap.size, 1, none⟩ (.int .i64 (oT (allS B)))).setCell ⟨w.heap.size, 2, none⟩ (.slice Ax (oZ (allS B)).length cx)).setCell ⟨w.heap.size, 3, none⟩ (.slice Ay (oD (allS B)).length cy)) (some w.heap.size) := grown_then (grown_then (grown_then (grown_setCell w6 w.heap.size 0 _) (grown_setCell _ w.heap.size 1 _) (.inl rfl)) (grown_setCell _ w.heap.size 2 _) (.inl rfl)) (grown_setCell _ w.heap.size 3 _) (.inl rfl)
     have HZ9 := Lib.hid (Own.kept HZ6.out hg9 (.inr (fun e => by have := (Own.lt HZ6.out w.heap.size e).1; omega)))
     have HD9 := Lib.hid (Own.kept HD6.out hg9 (.inr (fun e => by have := (Own.lt HD6.out w.heap.size e).1; omega)))
     have HB9 := Lib.hid ((HB2.out.trans (HB6.out.mono (by omega))).grown hg9 (by omega) (fun k hk => by injection hk with hk; omega))
     clear HST HOK hop hg9
     go_wp2_with fail
     refine bodyPost_ret (results_rload (fn := Tryz.f34) rfl _ _ w.heap.size _ _ _ _ rfl KF.out) rfl ?_
     exact ⟨_, rfl, ⟨_, _, rfl, Own.mono HZ9.out (by omega), Own.mono HD9.out (by omega), HAP.out⟩, HB9.out⟩
    ·have hopf : openB B nj = false := by simpa using hop
     have HRn := Lib.hid (show R = loadF (rkOf p room es) (L.take j).reverse by rw [HST.out, if_neg hop])
     rw [hopf]
     clear hop hopf HST HOK g0 g1 g2 g3
     go_wp2_with fail
     go_roundw
     case rel => exact ⟨j, by omega, by go_num, HB6, HRn⟩
     case measure => simp [intOf]
end Go.Proofs.YteehkcpokgeipaaGreatDoor
set_option linter.unusedVariables false
namespace Go.Proofs.YteehkcpokgeipaaGreatDoor
section
variable {N : Nat} {d : DkD}
theorem DOk.append (h : DOk N d) (n : Nm) (p : List UInt8) (hp : p.length ≤ 1048616) : DOk (N + 1) (d.append n [p]).2 := by
 unfold DkD.append
 split
 ·exact h.mono (by omega)
 ·split
  ·exact h.mono (by omega)
  ·rename_i hn
   split
   ·exact h.mono (by omega)
   ·have hsz := h.sz
    have hold := get_old n d.fs
    have hup := upTo_len d.pw.cut.2.1 [p].flatten
    have hfl : [p].flatten = p := by simp
    rw [hfl] at hup
    refine (h.put n _ ⟨fun e => hn (.inl e), by omega⟩ ?_).pw _
    simp only [List.length_append, hfl]
    split <;> push_cast <;> omega
theorem append_sz (d : DkD) (n : Nm) (p : List UInt8) : sizes (d.append n [p]).2.fs ≤ sizes d.fs + p.length := by
 unfold DkD.append
 split
 ·simp only; omega
 ·split
  ·simp only; omega
  ·split
   ·simp only; omega
   ·have hold := get_old n d.fs
    have hup := upTo_len d.pw.cut.2.1 [p].flatten
    have hfl : [p].flatten = p := by simp
    rw [hfl] at hup
    simp only [sizes_put, List.length_append, hfl]
    split <;> push_cast <;> omega
theorem DOk.cutF (h : DOk N d) (n : Nm) (k : Int) : DOk (N + 1) (d.cutF n k).2 := by
 unfold DkD.cutF
 split
 ·exact h.mono (by omega)
 ·split
  ·exact h.mono (by omega)
  ·rename_i f hf
   split
   ·exact h.mono (by omega)
   ·refine h.whole (h.put n _ (h.nm _ (get_mem hf)) ?_) (by omega)
    have h1 := sizes_get hf
    have h2 := h.sz
    have h3 : (f.b.take k.toNat).length ≤ f.b.length := List.length_take_le' ..
    simp only
    omega
theorem whole_fs (d : DkD) (fs : List (Nm × FD)) : (d.whole fs).2.fs = fs ∨ (d.whole fs).2.fs = d.fs := by
 unfold DkD.whole
 simp only
 split
 ·exact .inl rfl
 ·exact .inr rfl
theorem cutF_sz (d : DkD) (n : Nm) (k : Int) : sizes (d.cutF n k).2.fs ≤ sizes d.fs := by
 unfold DkD.cutF
 split
 ·exact Int.le_refl _
 ·split
  ·exact Int.le_refl _
  ·rename_i f hf
   split
   ·exact Int.le_refl _
   ·rcases whole_fs d (asPut n ⟨f.b.take k.toNat, min f.safe k.toNat⟩ d.fs) with e | e
    ·rw [e, sizes_put]
     have h1 := sizes_get hf
     have h3 : (f.b.take k.toNat).length ≤ f.b.length := List.length_take_le' ..
     simp only
     omega
    ·rw [e]
     exact Int.le_refl _
theorem remove_sz (d : DkD) (n : Nm) : sizes (d.remove n).2.fs ≤ sizes d.fs := by
 unfold DkD.remove
 split
 ·exact Int.le_refl _
 ·split
  ·exact Int.le_refl _
  ·rcases whole_fs d (asDel n d.fs) with e | e
   ·rw [e]; exact sizes_del n _
   ·rw [e]; exact Int.le_refl _
theorem rename_sz (d : DkD) (a b : Nm) : sizes (d.rename a b).2.fs ≤ sizes d.fs := by
 unfold DkD.rename
 split
 ·exact Int.le_refl _
 ·split
  ·exact Int.le_refl _
  ·rename_i f hf
   split
   ·exact Int.le_refl _
   ·rcases whole_fs d (asPut b f (asDel a d.fs)) with e | e
    ·rw [e, sizes_put]
     have h1 := sizes_get hf
     have h2 := sizes_del b (asDel a d.fs)
     omega
    ·rw [e]; exact Int.le_refl _
theorem sync_sz (d : DkD) (n : Nm) : sizes (d.sync n).2.fs ≤ sizes d.fs := by
 unfold DkD.sync
 split
 ·exact Int.le_refl _
 ·split
  ·exact Int.le_refl _
  ·rename_i f hf
   split
   ·exact Int.le_refl _
   ·show sizes (asPut n ⟨f.b, f.b.length⟩ d.fs) ≤ _
    rw [sizes_put]
    have := sizes_get hf
    exact this
theorem sizes_le_of {a b : List (Nm × FD)} (hl : a.length = b.length) (h : ∀ i (h1 : i < a.length) (h2 : i < b.length), a[i].2.b.length ≤ b[i].2.b.length) : sizes a ≤ sizes b := by
 induction a generalizing b with
 | nil =>
  have := sizes_nonneg b
  simpa [sizes] using this
 | cons x r ih =>
  cases b with
  | nil => simp at hl
  | cons y s =>
   have h0 := h 0 (by simp) (by simp)
   have h1 := ih (b := s) (by simpa using hl) (fun i h1 h2 => by have := h (i + 1) (by simpa using h1) (by simpa using h2); simpa using this)
   simp only [List.getElem_cons_zero] at h0
   simp only [sizes]
   omega
theorem boot_at (z : List Int) (fs : List (Nm × FD)) (i : Nat) (h1 : i < (bootK z fs.length fs).length) (h2 : i < fs.length) : (bootK z fs.length fs)[i] = (fs[i].1, bootAt z i fs[i].2) := by
 have h : ∀ h', (fs.mapIdx fun i q => if i < fs.length then (q.1, bootAt z i q.2) else q)[i]'h' = (fs[i].1, bootAt z i fs[i].2) := fun h' => by rw [List.getElem_mapIdx, if_pos h2]
 exact h _
theorem boot_sz (d : DkD) (z : List Int) : sizes (d.boot z).fs ≤ sizes d.fs := by
 refine sizes_le_of (bootK_length _ _ _) fun i h1 h2 => ?_
 show ((bootK z d.fs.length d.fs)[i]'h1).2.b.length ≤ _
 rw [boot_at z d.fs i h1 h2]
 exact List.length_take_le' ..
theorem DOk.boot (h : DOk N d) (z : List Int) : DOk N (d.boot z) :=
 ⟨Int.le_trans (boot_sz d z) h.sz, by show (bootK z d.fs.length d.fs).length ≤ N; rw [bootK_length]; exact h.len, fun q hq => by
  have hq' : q ∈ bootK z d.fs.length d.fs := hq
  obtain ⟨i, hi, rfl⟩ := List.getElem_of_mem hq'
  have hi2 : i < d.fs.length := by rwa [bootK_length] at hi
  rw [boot_at z d.fs i hi hi2]
  exact h.nm d.fs[i] (List.getElem_mem hi2)⟩
def wgt : SAct → Int
 | .app p => p.length
 | _ => 0
theorem wgt_nonneg (a : SAct) : 0 ≤ wgt a := by
 unfold wgt
 split <;> omega
theorem run_sz (a : SAct) (d : DkD) : sizes (a.run d).2.fs ≤ sizes d.fs + wgt a := by
 cases a with
 | rm => have := remove_sz d newN; show sizes (d.remove newN).2.fs ≤ sizes d.fs + 0; omega
 | app p => exact append_sz d newN p
 | sync => have := sync_sz d newN; show sizes (d.sync newN).2.fs ≤ sizes d.fs + 0; omega
 | ren i => have := rename_sz d newN (sName i); show sizes (d.rename newN (sName i)).2.fs ≤ sizes d.fs + 0; omega
def wgts : List SAct → Int
 | [] => 0
 | a :: r => wgt a + wgts r
theorem wgts_nonneg : ∀ l, 0 ≤ wgts l
 | [] => Int.le_refl _
 | a :: r => by
  have := wgts_nonneg r
  have := wgt_nonneg a
  unfold wgts
  omega
theorem wgts_append (a b : List SAct) : wgts (a ++ b) = wgts a + wgts b := by
 induction a with
 | nil => simp [wgts]
 | cons x r ih => simp only [List.cons_append, wgts, ih]; omega
theorem wgts_apps (rows : List (List UInt8)) : wgts (rows.map .app) = (rows.flatten.length : Int) := by
 induction rows with
 | nil => rfl
 | cons x r ih =>
  simp only [List.map_cons, wgts, wgt, ih, List.flatten_cons, List.length_append]
  omega
theorem runS_sz : ∀ (l : List SAct) (d : DkD), sizes (runS l d).2.fs ≤ sizes d.fs + wgts l
 | [], d => by simp [runS, wgts]
 | a :: r, d => by
  have h1 := run_sz a d
  have h2 := wgts_nonneg r
  unfold runS wgts
  split
  ·have := runS_sz r (a.run d).2
   omega
  ·omega
theorem runS_ok : ∀ (l : List SAct) {d : DkD} {N : Nat}, (∀ a ∈ l, ∀ i, a = .ren i → -9223372036854775808 ≤ i ∧ i ≤ 9223372036854775807) → (∀ a ∈ l, ∀ p, a = .app p → p.length ≤ 1048616) → DOk N d → DOk (N + l.length) (runS l d).2
 | [], _, _, _, _, h => h
 | a :: r, d, N, h1, h2, h => by
  have h3 := SAct.ok a (h1 a List.mem_cons_self) (h2 a List.mem_cons_self) h
  unfold runS
  rw [List.length_cons]
  split
  ·exact (runS_ok r (fun b hb => h1 b (List.mem_cons_of_mem _ hb)) (fun b hb => h2 b (List.mem_cons_of_mem _ hb)) h3).mono (by omega)
  ·exact h3.mono (by omega)
theorem rmS_sz : ∀ (l : List Int) (d : DkD), sizes (rmS l d).2.fs ≤ sizes d.fs
 | [], d => Int.le_refl _
 | n :: r, d => by
  have h1 := remove_sz d (sName n)
  unfold rmS
  split
  ·have := rmS_sz r (d.remove (sName n)).2
   omega
  ·exact h1
theorem rmS_ok : ∀ (l : List Int) {d : DkD} {N : Nat}, DOk N d → DOk N (rmS l d).2
 | [], _, _, h => h
 | n :: r, d, N, h => by
  have h1 := h.remove (sName n)
  unfold rmS
  split
  ·exact rmS_ok r h1
  ·exact h1
theorem acts_wgt (d : DkD) (i : Int) (rows : List (List UInt8)) : wgts (actsL d i rows) = (rows.flatten.length : Int) ∧ (actsL d i rows).length ≤ rows.length + 3 := by
 unfold actsL
 rw [wgts_append, wgts_append, wgts_apps]
 constructor
 ·split <;> simp [wgts, wgt]
 ·split <;> simp
theorem save_sz (d : DkD) (i E : Int) (rows : List (List UInt8)) : sizes (saveD d i E rows).2.fs ≤ sizes d.fs + rows.flatten.length := by
 have h1 := runS_sz (actsL d i rows) d
 rw [(acts_wgt d i rows).1] at h1
 unfold saveD
 split
 ·simp only; omega
 ·split
  ·simp only; omega
  ·split
   ·simp only; omega
   ·split
    ·have := rmS_sz ((idxL ((runS (actsL d i rows) d).2.fs.map (·.1))).take ((idxL ((runS (actsL d i rows) d).2.fs.map (·.1))).length - 2)) (runS (actsL d i rows) d).2
     unfold tailS
     omega
    ·exact h1
theorem save_ok {i E : Int} {rows : List (List UInt8)} (hi : -9223372036854775808 ≤ i ∧ i ≤ 9223372036854775807) (hr : ∀ r ∈ rows, r.length ≤ 1048616) (h : DOk N d) : DOk (N + (rows.length + 3)) (saveD d i E rows).2 := by
 have h0 : DOk (N + (actsL d i rows).length) (runS (actsL d i rows) d).2 := runS_ok _ (fun a ha j e => by
   subst e
   unfold actsL at ha
   simp only [List.mem_append, List.mem_map, List.mem_cons, List.not_mem_nil, or_false] at ha
   rcases ha with (ha | ⟨_, _, ha⟩) | ha | ha
   ·split at ha <;> simp at ha
   ·cases ha
   ·cases ha
   ·injection ha with ha
    rw [ha]
    exact hi) (fun a ha p e => by
   subst e
   unfold actsL at ha
   simp only [List.mem_append, List.mem_map, List.mem_cons, List.not_mem_nil, or_false] at ha
   rcases ha with (ha | ⟨q, hq, ha⟩) | ha | ha
   ·split at ha <;> simp at ha
   ·injection ha with ha
    rw [← ha]
    exact hr q hq
   ·cases ha
   ·cases ha) h
 have h1 := h0.mono (N' := N + (rows.length + 3)) (by have := (acts_wgt d i rows).2; omega)
 have h2 := h.mono (N' := N + (rows.length + 3)) (by omega)
 unfold saveD
 split
 ·exact h2
 ·split
  ·exact h2
  ·split
   ·exact h2
   ·split
    ·exact rmS_ok _ h1
    ·exact h1
end
structure PlayOk (k : Nat) (d : DkD) : Prop where
 ok : DOk (200 * k) d
 sz : sizes d.fs ≤ 110000 * (k : Int)
section
variable {k : Nat} {d : DkD}
theorem PlayOk.mono {k' : Nat} (h : PlayOk k d) (hk : k ≤ k') : PlayOk k' d := ⟨h.ok.mono (by omega), by have := h.sz; omega⟩
theorem PlayOk.pw (h : PlayOk k d) (p : PWD) : PlayOk k { d with pw := p } := ⟨h.ok.pw p, h.sz⟩
theorem PlayOk.append (h : PlayOk k d) (n : Nm) {p : List UInt8} (hp : p.length ≤ 65536) : PlayOk (k + 1) (d.append n [p]).2 :=
 ⟨(h.ok.append n p (by omega)).mono (by omega), by have := append_sz d n p; have := h.sz; push_cast; omega⟩
theorem PlayOk.cutF (h : PlayOk k d) (n : Nm) (z : Int) : PlayOk (k + 1) (d.cutF n z).2 :=
 ⟨(h.ok.cutF n z).mono (by omega), by have := cutF_sz d n z; have := h.sz; push_cast; omega⟩
theorem PlayOk.remove (h : PlayOk k d) (n : Nm) : PlayOk (k + 1) (d.remove n).2 :=
 ⟨(h.ok.remove n).mono (by omega), by have := remove_sz d n; have := h.sz; push_cast; omega⟩
theorem PlayOk.boot (h : PlayOk k d) (z : List Int) : PlayOk (k + 1) (d.boot z) :=
 ⟨(h.ok.boot z).mono (by omega), by have := boot_sz d z; have := h.sz; push_cast; omega⟩
theorem chunks_few {l : List UInt8} (h : l.length ≤ 67000) : (fileL l).length ≤ 190 := by
 rw [fileL_len]
 omega
theorem PlayOk.save (h : PlayOk k d) {i t : Int} {z : List Int} {l : List UInt8} (hi : -9223372036854775808 ≤ i ∧ i ≤ 9223372036854775807) (hz : ∀ n ∈ z, -9223372036854775808 ≤ n ∧ n ≤ 9223372036854775807) (hl : l.length ≤ 65536) :
  PlayOk (k + 1) (saveD d i (snapE i t z l) (fileL (snapS i t z l))).2 := by
 have h1 := snap_small (i := i) (t := t) hz hl
 have h2 := chunks_few h1
 have h3 := (file_small h1).2
 have h4 := save_sz d i (snapE i t z l) (fileL (snapS i t z l))
 have h5 := h.sz
 refine ⟨(save_ok hi (fun r hr => fileL_row hr) h.ok).mono (by omega), ?_⟩
 push_cast
 omega
theorem PlayOk.mem (h : PlayOk k d) (hk : k ≤ 60) {q : Nm × FD} (hq : q ∈ d.fs) : q.2.b.length ≤ 6600000 := by
 have h1 := sizes_mem hq
 have h2 := h.sz
 omega
end
end Go.Proofs.YteehkcpokgeipaaGreatDoor
set_option linter.unusedVariables false
set_option linter.unusedSimpArgs false
namespace Go.Proofs.YteehkcpokgeipaaGreatDoor
open Go.RowKit Go.Maps Go.Sort Oct
set_option maxHeartbeats 2000000 in
set_option maxRecDepth 100000 in
theorem snapLent_big (i t : Int) (z : List Int) (l : List UInt8) (Av Ad : Option Addr) (nv cv nd cd : Nat) (hnv : nv = z.length) (hnd : nd = l.length) (w : World)
  (ha : Rd w w.heap.size Av (z.map (Value.int .i64))) (ha2 : Rd w w.heap.size Ad (cells l)) (hz : z.length * 8 ≤ 140737488351232) (hl : l.length ≤ 140737488351232) :
  Calls Tryz.prog 30 #[snapV i t Av nv cv Ad nd cd] w fun e w' => ∃ x g, e = .returned (.agg #[.int .i64 i, .int .i64 t, x, .slice (some ⟨g, 0, none⟩) l.length (l.length + 1)]) ∧ Is w' w.heap.size x z ∧ LentAt w' g l ∧ w.heap.size ≤ g ∧ x.ownBlock ≠ some g ∧ Below w.heap.size w w' := by
 subst hnv; subst hnd
 unfold snapV
 have hb0 := Lib.hid (((Below.refl w.heap.size w).alloc (Nat.le_refl _) (Obj.cells #[.int .i64 i, .int .i64 t, .slice Av z.length cv, .slice Ad l.length cd] 29)).alloc (by simp) (Obj.cells #[.int .i64 0, .int .i64 0, .slice none 0 0, .slice none 0 0] 29))
 have K0 := Lib.hid ((Blk.new w 29 #[.int .i64 i, .int .i64 t, .slice Av z.length cv, .slice Ad l.length cd]).alloc (Obj.cells #[.int .i64 0, .int .i64 0, .slice none 0 0, .slice none 0 0] 29))
 have hK1 := Blk.new (w.alloc (Obj.cells #[.int .i64 i, .int .i64 t, .slice Av z.length cv, .slice Ad l.length cd] 29)) 29 #[.int .i64 0, .int .i64 0, .slice none 0 0, .slice none 0 0]
 rw [show (w.alloc (Obj.cells #[.int .i64 i, .int .i64 t, .slice Av z.length cv, .slice Ad l.length cd] 29)).heap.size = w.heap.size + 1 by simp] at hK1
 have K1 := Lib.hid hK1
 have hsz : ((w.alloc (Obj.cells #[.int .i64 i, .int .i64 t, .slice Av z.length cv, .slice Ad l.length cd] 29)).alloc (Obj.cells #[.int .i64 0, .int .i64 0, .slice none 0 0, .slice none 0 0] 29)).heap.size = w.heap.size + 2 := by simp
 have HZ := Lib.hid hsz
 clear hK1 hsz
 go_enter Tryz.func30, Tryz.ntmps30
 go_upto_region 1 with fail
 generalize hW0 : (w.alloc (Obj.cells #[.int .i64 i, .int .i64 t, .slice Av z.length cv, .slice Ad l.length cd] 29)).alloc (Obj.cells #[.int .i64 0, .int .i64 0, .slice none 0 0, .slice none 0 0] 29) = W0 at hb0 K0 K1 HZ ⊢
 clear hW0
 obtain ⟨e0, e1, e2, e3, f0, f1, f2, f3⟩ := blk4_cells (K0.out.alloc (.cells #[] 3))
 have hN0 : Own (W0.alloc (.cells #[] 3)) (w.heap.size + 2) 3 (.slice (some ⟨W0.heap.size, 0, none⟩) 0 0) [] := own_nothing W0 (w.heap.size + 2) 3 (by rw [HZ.out]; exact Nat.le_refl _)
 go_wp2_with (at_builtin; refine wpList_append_any rfl (.tmp 3) (.tmp 5) 26 rfl (w.heap.size + 2) 3 (.int .i64 0) 8 Tryz.underlying26 info_int rfl _ _ rfl hN0 w.heap.size Av _ _ (z.map (Value.int .i64)) rfl (by simp) ((ha.below hb0.out).alloc (by rw [HZ.out]; omega) _) (by intro u hu; obtain ⟨n, _, rfl⟩ := List.mem_map.1 hu; rfl) (by unfold maxLen; simp; omega) (by simp; omega) (by simp; rw [HZ.out]; omega) ?_)
 intro x w1 hox hg1 hf1
 have hb1 : Below (w.heap.size + 2) W0 w1 := ((Below.refl _ W0).alloc (by rw [HZ.out]; exact Nat.le_refl _) _).grown hg1 (by simp; rw [HZ.out]; omega) (fun k hk => (hN0.lt k hk).1)
 have HX := Lib.hid (show Is w1 (w.heap.size + 2) x z from hox)
 have hs1 : w.heap.size + 2 ≤ w1.heap.size := by have := hb1.size; rw [HZ.out] at this; exact this
 replace K0 := Lib.hid (K0.out.below hb1 (by omega))
 replace K1 := Lib.hid (K1.out.below hb1 (by omega))
 have hb01 := Lib.hid (hb0.out.trans (hb1.mono (by omega)))
 clear hox hg1 hf1 hb1 hb0 HZ hN0 e0 e1 e2 e3 f0 f1 f2 f3
 obtain ⟨Ax, cx, rfl, hcx, hmx, _⟩ := is_shape HX.out
 obtain ⟨e0, e1, e2, e3, f0, f1, f2, f3⟩ := blk4_cells K0.out
 go_upto_region 2 with fail
 clear e0 e1 e2 e3 f0 f1 f2 f3
 have K0' := Lib.hid (show Blk (w1.setCell ⟨w.heap.size, 2, none⟩ (.slice Ax z.length cx)) w.heap.size 29 #[.int .i64 i, .int .i64 t, .slice Ax z.length cx, .slice Ad l.length cd] from Blk.set_ K0.out 2 (.slice Ax z.length cx))
 have K1' := Lib.hid (Blk.far (p := ⟨w.heap.size, 2, none⟩) K1.out (by show w.heap.size + 1 ≠ w.heap.size; omega) (.slice Ax z.length cx))
 have hb02 := Lib.hid (hb01.out.setCell (p := ⟨w.heap.size, 2, none⟩) (Nat.le_refl _) (.slice Ax z.length cx))
 have HX2 := Lib.hid (show Is (w1.setCell ⟨w.heap.size, 2, none⟩ (.slice Ax z.length cx)) (w.heap.size + 2) _ z from Own.far HX.out (grown_setCell w1 w.heap.size 2 (.slice Ax z.length cx)) (by omega))
 have hs2 : w.heap.size + 2 ≤ (w1.setCell ⟨w.heap.size, 2, none⟩ (.slice Ax z.length cx)).heap.size := by simp; omega
 generalize hW2 : w1.setCell ⟨w.heap.size, 2, none⟩ (.slice Ax z.length cx) = W2 at K0' K1' hb02 HX2 hs2 ⊢
 clear hW2 K0 K1 hb01 HX hs1
 obtain ⟨e0, e1, e2, e3, f0, f1, f2, f3⟩ := blk4_cells K0'.out
 go_wp2_with fail
 refine (lent_any Ad l cd W2 ((ha2.below hb02.out).more hb02.out.size) hl).mono ?_
 rintro e w3 ⟨rfl, hlent, hb3⟩
 have hs3 : w.heap.size + 2 ≤ w3.heap.size := Nat.le_trans hs2 hb3.size
 have K0 := Lib.hid (K0'.out.below hb3 (by omega))
 have K1 := Lib.hid (K1'.out.below hb3 (by omega))
 have hb03 := Lib.hid (hb02.out.trans (hb3.mono hb02.out.size))
 have HX3 := Lib.hid (Own.below HX2.out hb3 (Nat.le_refl _))
 have HG : Hid (w.heap.size + 2 ≤ W2.heap.size ∧ (Value.slice Ax z.length cx).ownBlock ≠ some W2.heap.size) := Lib.hid ⟨hs2, fun h => by have := (HX2.out.lt _ h).2; omega⟩
 obtain ⟨G, hG⟩ : ∃ G, G = W2.heap.size := ⟨_, rfl⟩
 rw [← hG] at hlent HG ⊢
 have HL := Lib.hid hlent
 clear hG hlent hb3 hb02 K0' K1' HX2 hs2 e0 e1 e2 e3 f0 f1 f2 f3
 obtain ⟨e0, e1, e2, e3, f0, f1, f2, f3⟩ := blk4_cells K0.out
 go_upto_region 3 with fail
 clear e0 e1 e2 e3 f0 f1 f2 f3
 have K0' := Lib.hid (show Blk (w3.setCell ⟨w.heap.size, 3, none⟩ (.slice (some ⟨G, 0, none⟩) l.length (l.length + 1))) w.heap.size 29 #[.int .i64 i, .int .i64 t, .slice Ax z.length cx, .slice (some ⟨G, 0, none⟩) l.length (l.length + 1)] from Blk.set_ K0.out 3 (.slice (some ⟨G, 0, none⟩) l.length (l.length + 1)))
 have K1' := Lib.hid (Blk.far (p := ⟨w.heap.size, 3, none⟩) K1.out (by show w.heap.size + 1 ≠ w.heap.size; omega) (.slice (some ⟨G, 0, none⟩) l.length (l.length + 1)))
 have hb04 := Lib.hid (hb03.out.setCell (p := ⟨w.heap.size, 3, none⟩) (Nat.le_refl _) (.slice (some ⟨G, 0, none⟩) l.length (l.length + 1)))
 have HX4 := Lib.hid (show Is (w3.setCell ⟨w.heap.size, 3, none⟩ (.slice (some ⟨G, 0, none⟩) l.length (l.length + 1))) (w.heap.size + 2) _ z from Own.far HX3.out (grown_setCell w3 w.heap.size 3 _) (by omega))
 have HL4 := Lib.hid (show LentAt (w3.setCell ⟨w.heap.size, 3, none⟩ (.slice (some ⟨G, 0, none⟩) l.length (l.length + 1))) G l from Blk.far (p := ⟨w.heap.size, 3, none⟩) HL.out (by show G ≠ w.heap.size; have := HG.out.1; omega) _)
 generalize hW4 : w3.setCell ⟨w.heap.size, 3, none⟩ (.slice (some ⟨G, 0, none⟩) l.length (l.length + 1)) = W4 at K0' K1' hb04 HX4 HL4 ⊢
 clear hW4 K0 K1 hb03 HX3 HL hs3
 obtain ⟨d0, d1, d2, d3, _, _, _, _⟩ := blk4_cells K0'.out
 obtain ⟨e0, e1, e2, e3, f0, f1, f2, f3⟩ := blk4_cells K1'.out
 have KF := (((Blk.set_ K1'.out 0 (.int .i64 i)).set_ 1 (.int .i64 t)).set_ 2 (.slice Ax z.length cx)).set_ 3 (.slice (some ⟨G, 0, none⟩) l.length (l.length + 1))
 have hbF := Lib.hid ((((hb04.out.setCell (p := ⟨w.heap.size + 1, 0, none⟩) (by show w.heap.size ≤ w.heap.size + 1; omega) (.int .i64 i)).setCell (p := ⟨w.heap.size + 1, 1, none⟩) (by show w.heap.size ≤ w.heap.size + 1; omega) (.int .i64 t)).setCell (p := ⟨w.heap.size + 1, 2, none⟩) (by show w.heap.size ≤ w.heap.size + 1; omega) (.slice Ax z.length cx)).setCell (p := ⟨w.heap.size + 1, 3, none⟩) (by show w.heap.size ≤ w.heap.size + 1; omega) (.slice (some ⟨G, 0, none⟩) l.length (l.length + 1)))
 have HXF := Lib.hid (Own.mono (base' := w.heap.size) ((((Own.far HX4.out (grown_setCell W4 (w.heap.size + 1) 0 (.int .i64 i)) (by omega)).far (grown_setCell _ (w.heap.size + 1) 1 (.int .i64 t)) (by omega)).far (grown_setCell _ (w.heap.size + 1) 2 (.slice Ax z.length cx)) (by omega)).far (grown_setCell _ (w.heap.size + 1) 3 (.slice (some ⟨G, 0, none⟩) l.length (l.length + 1))) (by omega)) (by omega))
 have hne : G ≠ w.heap.size + 1 := by have := HG.out.1; omega
 have HLF := Lib.hid (Blk.far (p := ⟨w.heap.size + 1, 3, none⟩) (Blk.far (p := ⟨w.heap.size + 1, 2, none⟩) (Blk.far (p := ⟨w.heap.size + 1, 1, none⟩) (Blk.far (p := ⟨w.heap.size + 1, 0, none⟩) HL4.out hne (.int .i64 i)) hne (.int .i64 t)) hne (.slice Ax z.length cx)) hne (.slice (some ⟨G, 0, none⟩) l.length (l.length + 1)))
 replace KF := Lib.hid KF
 clear K0' K1' HX4 HL4 hb04
 go_wp2_with fail
 refine bodyPost_ret (results_snap1 (fn := Tryz.f30) rfl _ _ (w.heap.size + 1) _ _ _ _ rfl KF.out) rfl ?_
 exact ⟨_, G, rfl, HXF.out, HLF.out, by have := HG.out.1; omega, HG.out.2, hbF.out⟩
def KS (W : World) (lo g m g2 : Nat) (d d2 : DkD) (H : Nat → Prop) : Prop := ∃ es vL rs, DiskAt W lo g m d.pw d.room es ∧ sec FE.f es = d.fs ∧ RDiskAt W lo g2 d2.pw d2.room vL rs ∧ sec RF.f rs = d2.fs ∧ (∀ k, DFoot g m es k → ¬ RFoot g2 vL rs k) ∧ (∀ k, DFoot g m es k ∨ RFoot g2 vL rs k → ¬ H k)
section
variable {W W' : World} {lo g m g2 : Nat} {d d2 d' : DkD} {H : Nat → Prop}
theorem dkd_eq (p : PWD) (room : Int) {es : List (Nm × FE)} {d : DkD} (h1 : p = d.pw) (h2 : room = d.room) (h : sec FE.f es = d.fs) : dkOf p room es = d := by
 obtain ⟨a, b, c⟩ := d
 subst h1 h2
 simp only at h
 rw [← h]
theorem rkd_eq (p : PWD) (room : Int) {es : List (Nm × RF)} {d : DkD} (h1 : p = d.pw) (h2 : room = d.room) (h : sec RF.f es = d.fs) : rkOf p room es = d := by
 obtain ⟨a, b, c⟩ := d
 subst h1 h2
 simp only at h
 rw [← h]
theorem KS.left (h : KS W lo g m g2 d d2 H) : ∃ es, DiskAt W lo g m d.pw d.room es ∧ sec FE.f es = d.fs ∧ ∀ d' W', DiskTo W lo g m es d' W' → (∀ k, H k → k < W.heap.size) → KS W' lo g m g2 d' d2 H ∧ Below lo W W' ∧ ∀ k, k < W.heap.size → H k → W'.heap[k]? = W.heap[k]? := by
 obtain ⟨es, vL, rs, hD, hf, hR, hf2, hd, hH⟩ := h
 refine ⟨es, hD, hf, fun d' W' hT hlt => ?_⟩
 obtain ⟨es', h1, h2, h3, h4⟩ := hT
 have hk : ∀ k, RFoot g2 vL rs k → W'.heap[k]? = W.heap[k]? := fun k hk => h3.block k (hR.lt k hk).2 (fun e => hd k e hk)
 refine ⟨⟨es', vL, rs, h1, h2, hR.keep h3.size hk, hf2, fun k e1 e2 => ?_, fun k e e3 => ?_⟩, h3.below (by have := hD.lt g (.inl rfl); omega) (fun j hj => (hD.lt j hj).1), fun k hk hH' => h3.block k hk (fun e => hH k (.inl e) hH')⟩
 ·rcases h4 k e1 with e | e
  ·exact hd k e e2
  ·have := (hR.lt k e2).2
   omega
 ·rcases e with e | e
  ·rcases h4 k e with e | e
   ·exact hH k (.inl e) e3
   ·have := hlt k e3
    omega
  ·exact hH k (.inr e) e3
theorem KS.right (h : KS W lo g m g2 d d2 H) : ∃ vL rs, RDiskAt W lo g2 d2.pw d2.room vL rs ∧ sec RF.f rs = d2.fs ∧ ∀ d' W', RTo W lo g2 vL rs d' W' → (∀ k, H k → k < W.heap.size) → KS W' lo g m g2 d d' H ∧ Below lo W W' ∧ ∀ k, k < W.heap.size → H k → W'.heap[k]? = W.heap[k]? := by
 obtain ⟨es, vL, rs, hD, hf, hR, hf2, hd, hH⟩ := h
 refine ⟨vL, rs, hR, hf2, fun d' W' hT hlt => ?_⟩
 obtain ⟨vL', rs', h1, h2, h3, h4⟩ := hT
 have hk : ∀ k, DFoot g m es k → W'.heap[k]? = W.heap[k]? := fun k hk => h3.block k (hD.lt k hk).2 (fun e => hd k hk e)
 refine ⟨⟨es, vL', rs', hD.keep h3.size hk, hf, h1, h2, fun k e1 e2 => ?_, fun k e e3 => ?_⟩, h3.below (by have := hR.lt g2 (.inl rfl); omega) (fun j hj => (hR.lt j hj).1), fun k hk hH' => h3.block k hk (fun e => hH k (.inr e) hH')⟩
 ·rcases h4 k e2 with e | e
  ·exact hd k e1 e
  ·have := (hD.lt k e1).2
   omega
 ·rcases e with e | e
  ·exact hH k (.inl e) e3
  ·rcases h4 k e with e | e
   ·exact hH k (.inr e) e3
   ·have := hlt k e3
    omega
theorem KS.keep (h : KS W lo g m g2 d d2 H) (hs : W.heap.size ≤ W'.heap.size) (hk : ∀ k, lo ≤ k → k < W.heap.size → ¬ H k → W'.heap[k]? = W.heap[k]?) : KS W' lo g m g2 d d2 H := by
 obtain ⟨es, vL, rs, hD, hf, hR, hf2, hd, hH⟩ := h
 exact ⟨es, vL, rs, hD.keep hs fun k e => hk k (hD.lt k e).1 (hD.lt k e).2 (hH k (.inl e)), hf, hR.keep hs fun k e => hk k (hR.lt k e).1 (hR.lt k e).2 (hH k (.inr e)), hf2, hd, hH⟩
theorem KS.below (h : KS W lo g m g2 d d2 H) (hb : Below W.heap.size W W') : KS W' lo g m g2 d d2 H := h.keep hb.size fun k _ h2 _ => hb.block k h2
theorem KS.fresh {W0 : World} (h : KS W0 lo g m g2 d d2 (fun _ => False)) (hb : Below W0.heap.size W0 W) : KS W lo g m g2 d d2 (fun k => W0.heap.size ≤ k ∧ k < W.heap.size) := by
 obtain ⟨es, vL, rs, hD, hf, hR, hf2, hd, hH⟩ := h
 refine ⟨es, vL, rs, hD.below hb, hf, hR.below hb, hf2, hd, fun k e h1 => ?_⟩
 rcases e with e | e
 ·have := (hD.lt k e).2
  omega
 ·have := (hR.lt k e).2
  omega
theorem KS.free (h : KS W lo g m g2 d d2 H) : KS W lo g m g2 d d2 (fun _ => False) := by
 obtain ⟨es, vL, rs, hD, hf, hR, hf2, hd, hH⟩ := h
 exact ⟨es, vL, rs, hD, hf, hR, hf2, hd, fun _ _ h => h⟩
theorem KS.size (h : KS W lo g m g2 d d2 H) : lo ≤ W.heap.size := by
 obtain ⟨es, vL, rs, hD, hf, hR, hf2, hd, hH⟩ := h
 have := hD.lt g (.inl rfl)
 omega
end
end Go.Proofs.YteehkcpokgeipaaGreatDoor
set_option linter.unusedVariables false
set_option linter.unusedSimpArgs false
namespace Go.Proofs.YteehkcpokgeipaaGreatDoor
open Go.RowKit Go.Maps Go.Sort Oct
def KTo (W W' : World) (lo g m g2 : Nat) (d d2 : DkD) (H : Nat → Prop) : Prop := KS W' lo g m g2 d d2 H ∧ Below lo W W' ∧ ∀ k, k < W.heap.size → H k → W'.heap[k]? = W.heap[k]?
theorem str_nm (s : ByteArray) : str s.data.toList = s := by
 obtain ⟨⟨l⟩⟩ := s
 rfl
section
variable {W : World} {lo g m g2 : Nat} {d d2 : DkD} {H : Nat → Prop} {k : Nat}
theorem fe_mem {es : List (Nm × FE)} {fs : List (Nm × FD)} (h : sec FE.f es = fs) {q : Nm × FE} (hq : q ∈ es) : (q.1, q.2.f) ∈ fs := by rw [← h]; exact List.mem_map.2 ⟨q, hq, rfl⟩
theorem rf_mem {es : List (Nm × RF)} {fs : List (Nm × FD)} (h : sec RF.f es = fs) {q : Nm × RF} (hq : q ∈ es) : (q.1, q.2.f) ∈ fs := by rw [← h]; exact List.mem_map.2 ⟨q, hq, rfl⟩
theorem fe_len {es : List (Nm × FE)} {fs : List (Nm × FD)} (h : sec FE.f es = fs) : es.length = fs.length := by rw [← h]; simp [sec]
theorem rf_len {es : List (Nm × RF)} {fs : List (Nm × FD)} (h : sec RF.f es = fs) : es.length = fs.length := by rw [← h]; simp [sec]
theorem kp_save (h : KS W lo g m g2 d d2 H) (hH : ∀ k, H k → k < W.heap.size) (hP : PlayOk k d) (hk : k ≤ 60)
  (i t : Int) (Av Ad : Option Addr) (z : List Int) (l : List UInt8) (nv cv nd cd : Nat) (hv : nv = z.length) (hd : nd = l.length) (hr : Rd W W.heap.size Av (z.map (Value.int .i64))) (hr2 : Rd W W.heap.size Ad (cells l))
  (hz : ∀ n ∈ z, -9223372036854775808 ≤ n ∧ n ≤ 9223372036854775807) (hl : z.length ≤ 140737488351232) (hi : -9223372036854775808 ≤ i ∧ i ≤ 9223372036854775807) (hl2 : l.length ≤ 65536) (hF : ∀ w', Below lo W w' → Facts w') :
  Calls Tryz.prog 7 #[.pointer (some ⟨g, 0, none⟩), snapV i t Av nv cv Ad nd cd] W fun e w' => e = .returned (.int .i64 (saveD d i (snapE i t z l) (fileL (snapS i t z l))).1) ∧ KTo W w' lo g m g2 (saveD d i (snapE i t z l) (fileL (snapS i t z l))).2 d2 H := by
 have hlo := h.size
 obtain ⟨es, hD, hf, hgo⟩ := h.left
 have e := dkd_eq d.pw d.room rfl rfl hf
 have hsn := snap_small (i := i) (t := t) hz hl2
 have c := save_any hD (N := 200 * k) (by rw [e]; exact hP.ok) (by omega) i t Av Ad z l nv cv nd cd hv hd hr hr2 hz hl (by omega) hi (by omega) hlo hF
 rw [e] at c
 exact c.mono fun e w' ⟨h1, h2⟩ => ⟨h1, hgo _ _ h2 hH⟩
theorem kr_save (h : KS W lo g m g2 d d2 H) (hH : ∀ k, H k → k < W.heap.size) (hP : PlayOk k d2) (hk : k ≤ 60)
  (i t : Int) (Av Ad : Option Addr) (z : List Int) (l : List UInt8) (nv cv nd cd : Nat) (hv : nv = z.length) (hd : nd = l.length) (hr : Rd W W.heap.size Av (z.map (Value.int .i64))) (hr2 : Rd W W.heap.size Ad (cells l))
  (hz : ∀ n ∈ z, -9223372036854775808 ≤ n ∧ n ≤ 9223372036854775807) (hl : z.length ≤ 140737488351232) (hi : -9223372036854775808 ≤ i ∧ i ≤ 9223372036854775807) (hl2 : l.length ≤ 65536) :
  Calls Tryz.prog 31 #[.pointer (some ⟨g2, 0, none⟩), snapV i t Av nv cv Ad nd cd] W fun e w' => e = .returned (.int .i64 (saveD d2 i (snapE i t z l) (fileL (snapS i t z l))).1) ∧ KTo W w' lo g m g2 d (saveD d2 i (snapE i t z l) (fileL (snapS i t z l))).2 H := by
 obtain ⟨vL, rs, hD, hf, hgo⟩ := h.right
 have e := rkd_eq d2.pw d2.room rfl rfl hf
 have hsn := snap_small (i := i) (t := t) hz hl2
 have c := rsave_any hD (N := 200 * k) (by rw [e]; exact hP.ok) (by omega) i t Av Ad z l nv cv nd cd hv hd hr hr2 hz hl (by omega) hi (by omega)
 rw [e] at c
 exact c.mono fun e w' ⟨h1, h2⟩ => ⟨h1, hgo _ _ h2 hH⟩
theorem kp_load (h : KS W lo g m g2 d d2 H) (hP : PlayOk k d) (hk : k ≤ 60) (hF : Facts W) :
  Calls Tryz.prog 33 #[.pointer (some ⟨g, 0, none⟩)] W fun e w' => ∃ V, e = .returned (.tuple #[V, .bool (loadO d).isSome, .int .i64 (loadE d)]) ∧ SnapR w' W.heap.size V (sI (loadO d)) (sT (loadO d)) (sZ (loadO d)) (sD (loadO d)) ∧ Below W.heap.size W w' := by
 obtain ⟨es, hD, hf, hgo⟩ := h.left
 have e := dkd_eq d.pw d.room rfl rfl hf
 have c := kload_any hD (by have := hP.ok.len; rw [fe_len hf]; omega) (fun q hq => hP.ok.nm _ (fe_mem hf hq)) (fun q hq => by have := hP.mem hk (fe_mem hf hq); simp only at this; omega) hF
 rw [e] at c
 exact c
theorem kr_load (h : KS W lo g m g2 d d2 H) (hP : PlayOk k d2) (hk : k ≤ 60) :
  Calls Tryz.prog 34 #[.pointer (some ⟨g2, 0, none⟩)] W fun e w' => ∃ V, e = .returned (.tuple #[V, .bool (loadO d2).isSome, .int .i64 (loadE d2)]) ∧ SnapR w' W.heap.size V (sI (loadO d2)) (sT (loadO d2)) (sZ (loadO d2)) (sD (loadO d2)) ∧ Below W.heap.size W w' := by
 obtain ⟨vL, rs, hD, hf, hgo⟩ := h.right
 have e := rkd_eq d2.pw d2.room rfl rfl hf
 have c := rkload_any hD (by have := hP.ok.len; rw [rf_len hf]; omega) (fun q hq => (hP.ok.nm _ (rf_mem hf hq)).2) (fun q hq => by have := hP.mem hk (rf_mem hf hq); simp only at this; omega)
 rw [e] at c
 exact c
theorem kp_arm (h : KS W lo g m g2 d d2 H) (hH : ∀ k, H k → k < W.heap.size) (a b : Int) (ha : -9223372036854775808 ≤ a ∧ a ≤ 9223372036854775807) (hb : -9223372036854775808 ≤ b ∧ b ≤ 9223372036854775807) :
  Calls Tryz.prog 37 #[.pointer (some ⟨g, 0, none⟩), .int .i64 a, .int .i64 b] W fun e w' => (∃ v, e = .returned v) ∧ KTo W w' lo g m g2 { d with pw := d.pw.arm2 a b } d2 H := by
 obtain ⟨es, hD, hf, hgo⟩ := h.left
 refine (darm_any hD a b ha hb).mono fun e w' ⟨h1, h2, h3⟩ => ⟨h1, hgo _ _ ?_ hH⟩
 have h4 := DiskTo.mk' h2 h3
 rw [dkd_eq (d := { d with pw := d.pw.arm2 a b }) (d.pw.arm2 a b) d.room rfl rfl hf] at h4
 exact h4
theorem kr_arm (h : KS W lo g m g2 d d2 H) (hH : ∀ k, H k → k < W.heap.size) (a b : Int) (ha : -9223372036854775808 ≤ a ∧ a ≤ 9223372036854775807) (hb : -9223372036854775808 ≤ b ∧ b ≤ 9223372036854775807) :
  Calls Tryz.prog 38 #[.pointer (some ⟨g2, 0, none⟩), .int .i64 a, .int .i64 b] W fun e w' => (∃ v, e = .returned v) ∧ KTo W w' lo g m g2 d { d2 with pw := d2.pw.arm2 a b } H := by
 obtain ⟨vL, rs, hD, hf, hgo⟩ := h.right
 refine (rarm_any hD a b ha hb).mono fun e w' ⟨h1, h2, h3⟩ => ⟨h1, hgo _ _ ?_ hH⟩
 have h4 := RTo.mk' h2 h3
 rw [rkd_eq (d := { d2 with pw := d2.pw.arm2 a b }) (d2.pw.arm a b) d2.room rfl rfl hf] at h4
 exact h4
theorem kp_boot (h : KS W lo g m g2 d d2 H) (hH : ∀ k, H k → k < W.heap.size) (hP : PlayOk k d) (hk : k ≤ 60) (A : Option Addr) (z : List Int) (cz : Nat) (hz : Rd W lo A (z.map (Value.int .i64))) (hzb : ∀ n ∈ z, -9223372036854775808 ≤ n ∧ n ≤ 9223372036854775807) (hzl : z.length ≤ 140737488351232) :
  Calls Tryz.prog 39 #[.pointer (some ⟨g, 0, none⟩), .slice A z.length cz] W fun e w' => (∃ v, e = .returned v) ∧ KTo W w' lo g m g2 (d.boot z) d2 H := by
 obtain ⟨es, hD, hf, hgo⟩ := h.left
 have e := dkd_eq d.pw d.room rfl rfl hf
 have c := dboot_any hD A z cz hz hzb hzl (by have := hP.ok.len; rw [fe_len hf]; omega) (fun q hq => by have := hP.mem hk (fe_mem hf hq); simp only at this; omega) (fun q hq => by have := (hP.ok.nm _ (fe_mem hf hq)).2; simp only at this; omega)
 rw [e] at c
 exact c.mono fun e w' ⟨h1, h2⟩ => ⟨h1, hgo _ _ h2 hH⟩
theorem kr_boot (h : KS W lo g m g2 d d2 H) (hH : ∀ k, H k → k < W.heap.size) (hP : PlayOk k d2) (hk : k ≤ 60) (A : Option Addr) (z : List Int) (cz : Nat) (hz : Rd W lo A (z.map (Value.int .i64))) (hzb : ∀ n ∈ z, -9223372036854775808 ≤ n ∧ n ≤ 9223372036854775807) (hzl : z.length ≤ 140737488351232) :
  Calls Tryz.prog 40 #[.pointer (some ⟨g2, 0, none⟩), .slice A z.length cz] W fun e w' => (∃ v, e = .returned v) ∧ KTo W w' lo g m g2 d (d2.boot z) H := by
 obtain ⟨vL, rs, hD, hf, hgo⟩ := h.right
 have e := rkd_eq d2.pw d2.room rfl rfl hf
 have c := rboot_any hD A z cz hz hzb hzl (by have := hP.ok.len; rw [rf_len hf]; omega) (fun q hq => by have := hP.mem hk (rf_mem hf hq); simp only at this; omega)
 rw [e] at c
 exact c.mono fun e w' ⟨h1, h2⟩ => ⟨h1, hgo _ _ h2 hH⟩
theorem sizes_ok (hP : PlayOk k d) (hk : k ≤ 60) : sizes d.fs ≤ 4611686018427387904 := by
 have := hP.sz
 omega
theorem kp_append (h : KS W lo g m g2 d d2 H) (hH : ∀ k, H k → k < W.heap.size) (hP : PlayOk k d) (hk : k ≤ 60) (s : ByteArray) (hs : s.size ≤ 140737488351232) (A : Option Addr) (q : Row) (hrd : Rd W W.heap.size A [q.val]) (hp : Rd W W.heap.size q.a (cells q.l)) (hl : q.l.length ≤ 65536) :
  Calls Tryz.prog 21 #[.pointer (some ⟨g, 0, none⟩), .string s, .slice A 1 1] W fun e w' => e = .returned (.int .i64 (d.append s.data.toList [q.l]).1) ∧ KTo W w' lo g m g2 (d.append s.data.toList [q.l]).2 d2 H := by
 obtain ⟨es, hD, hf, hgo⟩ := h.left
 have e := dkd_eq d.pw d.room rfl rfl hf
 have hfl : flat [q] = q.l := by simp [flat]
 have c := dappend_any hD s hs A [q] 1 hrd (fun p hp' => by obtain rfl := List.mem_singleton.1 hp'; exact ⟨hp, by omega⟩) (by simp) (by simp) (by rw [hfl]; omega) (fun q hq => by have := hP.mem hk (fe_mem hf hq); simp only at this; omega) (by rw [hf]; exact sizes_ok hP hk) (by have := hP.ok.len; rw [fe_len hf]; omega)
 rw [e] at c
 exact c.mono fun e w' ⟨h1, h2⟩ => ⟨h1, hgo _ _ h2 hH⟩
theorem kr_append (h : KS W lo g m g2 d d2 H) (hH : ∀ k, H k → k < W.heap.size) (hP : PlayOk k d2) (hk : k ≤ 60) (s : ByteArray) (hs : s.size ≤ 140737488351232) (A : Option Addr) (q : Row) (hrd : Rd W W.heap.size A [q.val]) (hp : Rd W W.heap.size q.a (cells q.l)) (hl : q.l.length ≤ 65536) :
  Calls Tryz.prog 41 #[.pointer (some ⟨g2, 0, none⟩), .string s, .slice A 1 1] W fun e w' => e = .returned (.int .i64 (d2.append s.data.toList [q.l]).1) ∧ KTo W w' lo g m g2 d (d2.append s.data.toList [q.l]).2 H := by
 obtain ⟨vL, rs, hD, hf, hgo⟩ := h.right
 have e := rkd_eq d2.pw d2.room rfl rfl hf
 have hfl : flat [q] = q.l := by simp [flat]
 have c := rappend_any hD s.data.toList (by simpa using hs) A [q] 1 hrd (fun p hp' => by obtain rfl := List.mem_singleton.1 hp'; exact ⟨hp, by omega⟩) (by simp) (by simp) (by rw [hfl]; omega) (fun q hq => by have := hP.mem hk (rf_mem hf hq); simp only at this; omega) (by rw [hf]; exact sizes_ok hP hk) (by have := hP.ok.len; rw [rf_len hf]; omega)
 rw [e, str_nm] at c
 exact c.mono fun e w' ⟨h1, h2⟩ => ⟨h1, hgo _ _ h2 hH⟩
theorem kp_cut (h : KS W lo g m g2 d d2 H) (hH : ∀ k, H k → k < W.heap.size) (s : ByteArray) (hs : s.size ≤ 140737488351232) (z : Int) (hz : -9223372036854775808 ≤ z ∧ z ≤ 9223372036854775807) :
  Calls Tryz.prog 42 #[.pointer (some ⟨g, 0, none⟩), .string s, .int .i64 z] W fun e w' => e = .returned (.int .i64 (d.cutF s.data.toList z).1) ∧ KTo W w' lo g m g2 (d.cutF s.data.toList z).2 d2 H := by
 obtain ⟨es, hD, hf, hgo⟩ := h.left
 have e := dkd_eq d.pw d.room rfl rfl hf
 have c := dcutF_any hD s hs z hz
 rw [e] at c
 exact c.mono fun e w' ⟨h1, h2⟩ => ⟨h1, hgo _ _ h2 hH⟩
theorem kr_cut (h : KS W lo g m g2 d d2 H) (hH : ∀ k, H k → k < W.heap.size) (hP : PlayOk k d2) (hk : k ≤ 60) (s : ByteArray) (z : Int) (hz : -9223372036854775808 ≤ z ∧ z ≤ 9223372036854775807) :
  Calls Tryz.prog 43 #[.pointer (some ⟨g2, 0, none⟩), .string s, .int .i64 z] W fun e w' => e = .returned (.int .i64 (d2.cutF s.data.toList z).1) ∧ KTo W w' lo g m g2 d (d2.cutF s.data.toList z).2 H := by
 obtain ⟨vL, rs, hD, hf, hgo⟩ := h.right
 have e := rkd_eq d2.pw d2.room rfl rfl hf
 have c := rcut_any hD s.data.toList z hz (by have := hP.ok.len; rw [rf_len hf]; omega)
 rw [e, str_nm] at c
 exact c.mono fun e w' ⟨h1, h2⟩ => ⟨h1, hgo _ _ h2 hH⟩
theorem kp_remove (h : KS W lo g m g2 d d2 H) (hH : ∀ k, H k → k < W.heap.size) (s : ByteArray) (hs : s.size ≤ 140737488351232) :
  Calls Tryz.prog 19 #[.pointer (some ⟨g, 0, none⟩), .string s] W fun e w' => e = .returned (.int .i64 (d.remove s.data.toList).1) ∧ KTo W w' lo g m g2 (d.remove s.data.toList).2 d2 H := by
 obtain ⟨es, hD, hf, hgo⟩ := h.left
 have e := dkd_eq d.pw d.room rfl rfl hf
 have c := dremove_any hD s hs
 rw [e] at c
 exact c.mono fun e w' ⟨h1, h2⟩ => ⟨h1, hgo _ _ h2 hH⟩
theorem kr_remove (h : KS W lo g m g2 d d2 H) (hH : ∀ k, H k → k < W.heap.size) (hP : PlayOk k d2) (hk : k ≤ 60) (s : ByteArray) :
  Calls Tryz.prog 44 #[.pointer (some ⟨g2, 0, none⟩), .string s] W fun e w' => e = .returned (.int .i64 (d2.remove s.data.toList).1) ∧ KTo W w' lo g m g2 d (d2.remove s.data.toList).2 H := by
 obtain ⟨vL, rs, hD, hf, hgo⟩ := h.right
 have e := rkd_eq d2.pw d2.room rfl rfl hf
 have c := rremove_any hD s.data.toList (by have := hP.ok.len; rw [rf_len hf]; omega)
 rw [e, str_nm] at c
 exact c.mono fun e w' ⟨h1, h2⟩ => ⟨h1, hgo _ _ h2 hH⟩
end
end Go.Proofs.YteehkcpokgeipaaGreatDoor
