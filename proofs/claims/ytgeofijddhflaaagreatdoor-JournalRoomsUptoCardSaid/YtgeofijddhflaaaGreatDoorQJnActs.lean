/- journal: acts on its disk, each a function value. Condition: the disk is a call's own, and within bounds. -/
import Derived.Test.YtgeofijddhflaaaGreatDoorQJnMeta
import Derived.Test.YtgeofijddhflaaaGreatDoorQJnMay
import Derived.Test.YtgeofijddhflaaaGreatDoorQJnSeg
import Derived.Test.YtgeofijddhflaaaGreatDoorQJnSaveP
import Derived.Test.YtgeofijddhflaaaGreatDoorQDiskApp
import Derived.Test.YtgeofijddhflaaaGreatDoorQDiskRm
import Derived.Test.YtgeofijddhflaaaGreatDoorQDiskCut
set_option linter.unusedVariables false
set_option linter.unusedSimpArgs false
namespace Go.Proofs.YtgeofijddhflaaaGreatDoor
open Go.RowKit Go.Maps Oct
theorem str_nm (n : Nm) : (str n).data.toList = n := by simp [str]
theorem SegM.longB {w : World} {F : Nat → Prop} {ad : Addr} {s : SegP} (h : SegM w F ad s) : 0 ≤ s.long ∧ s.long ≤ 4611686018427387904 := by
 unfold SegP.long
 rcases List.eq_nil_or_concat s.ends with h0 | ⟨r, x, hr⟩
 ·rw [h0]; simp
 ·rw [List.concat_eq_append] at hr
  have := h.rd.num.ends x (by rw [hr]; simp)
  rw [hr]
  simpa using this
section
variable {w : World} {base g m gj : Nat} {p : PWD} {room : Int} {es : List (Nm × FE)}
set_option maxHeartbeats 1000000 in
set_option maxRecDepth 100000 in
theorem jrm_any (h : DiskAt w base g m p room es) (n : Nm) (hn : n.length ≤ 1000) (b1 b2 : Nat) (c1 : w.cell? ⟨b1, 0, none⟩ = some (.pointer (some ⟨gj, 0, none⟩))) (c2 : w.cell? ⟨b2, 0, none⟩ = some (.string (str n))) (c3 : w.cell? ⟨gj, 3, none⟩ = some (.pointer (some ⟨g, 0, none⟩))) (hf : ∀ k, k = b1 ∨ k = b2 ∨ k = gj → ¬ DFoot g m es k) :
  Calls Tryz.prog 96 #[.pointer (some ⟨b1, 0, none⟩), .pointer (some ⟨b2, 0, none⟩)] w fun e w' => e = .returned (.int .i64 ((JAct.rm n).run (dkOf p room es)).1) ∧ DiskTo w base g m es ((JAct.rm n).run (dkOf p room es)).2 w' := by
 have HC := Lib.hid (dremove_any (h.below (below_drewN (Below.refl _ w) 1)) (str n) (by rw [str_size]; omega))
 rw [str_nm] at HC
 obtain ⟨R, hR⟩ : ∃ R, R = (JAct.rm n).run (dkOf p room es) := ⟨_, rfl⟩
 change Hid (Calls _ _ _ _ fun e w' => e = .returned (.int .i64 ((JAct.rm n).run (dkOf p room es)).1) ∧ DiskTo _ base g m es ((JAct.rm n).run (dkOf p room es)).2 w') at HC
 rw [← hR] at HC ⊢
 have HF := Lib.hid hf
 have HB := Lib.hid (Fr.of_below (DFoot g m es) (below_drewN (Below.refl _ w) 1))
 have b1l := World.block_lt_of_cell? w ⟨b1, 0, none⟩ c1
 have b2l := World.block_lt_of_cell? w ⟨b2, 0, none⟩ c2
 have gjl := World.block_lt_of_cell? w ⟨gj, 3, none⟩ c3
 clear hR h hf
 go_enter Tryz.func96, Tryz.ntmps96
 go_wp2_with fail
 refine wp_region_held_drew (S := fun W => W.cell? ⟨b1, 0, none⟩ = some (.pointer (some ⟨gj, 0, none⟩)) ∧ W.cell? ⟨b2, 0, none⟩ = some (.string (str n)) ∧ W.cell? ⟨gj, 3, none⟩ = some (.pointer (some ⟨g, 0, none⟩)) ∧ True) (by kernel_rfl) ⟨c1, c2, c3, trivial⟩ (fun hHeld => ?_)
 refine held_take 0 (v := ?_) (by simp) (by kernel_rfl) (by kernel_rfl) (by kernel_rfl) (fun _ _ _ h => h) (Or.inl ⟨by rfl, ?_⟩) hHeld ?_
 case refine_2 => (intro w hSw; (try dsimp only at hSw); (try (obtain ⟨s0, s1, s2, s3⟩ := hSw)); simp only [List.getElem_cons_zero]; go_simp <;> with_reducible rfl)
 simp only [List.getElem_cons_zero, Act.put, List.setIfInBounds_toArray, List.set_cons_zero, List.set_cons_succ]
 refine held_take 1 (v := ?_) (by simp) (by kernel_rfl) (by kernel_rfl) (by kernel_rfl) (fun _ _ _ h => h) (Or.inl ⟨by rfl, ?_⟩) hHeld ?_
 case refine_2 => (intro w hSw; (try dsimp only at hSw); (try (obtain ⟨s0, s1, s2, s3⟩ := hSw)); simp only [List.getElem_cons_zero, List.getElem_cons_succ]; go_simp <;> with_reducible rfl)
 simp only [List.getElem_cons_zero, List.getElem_cons_succ, Act.put, List.setIfInBounds_toArray, List.set_cons_zero, List.set_cons_succ]
 refine held_take 2 (v := ?_) (by simp) (by kernel_rfl) (by kernel_rfl) (by kernel_rfl) (fun _ _ _ h => h) (Or.inl ⟨by rfl, ?_⟩) hHeld ?_
 case refine_2 => (intro w hSw; (try dsimp only at hSw); (try (obtain ⟨s0, s1, s2, s3⟩ := hSw)); simp only [List.getElem_cons_zero, List.getElem_cons_succ]; go_simp <;> with_reducible rfl)
 simp only [List.getElem_cons_zero, List.getElem_cons_succ, Act.put, List.setIfInBounds_toArray, List.set_cons_zero, List.set_cons_succ]
 refine held_take 3 (v := ?_) (by simp) (by kernel_rfl) (by kernel_rfl) (by kernel_rfl) (fun _ _ _ h => h) (Or.inl ⟨by rfl, ?_⟩) hHeld ?_
 case refine_2 => (intro w hSw; (try dsimp only at hSw); (try (obtain ⟨s0, s1, s2, s3⟩ := hSw)); simp only [List.getElem_cons_zero, List.getElem_cons_succ]; go_simp <;> with_reducible rfl)
 simp only [List.getElem_cons_zero, List.getElem_cons_succ, Act.put, List.setIfInBounds_toArray, List.set_cons_zero, List.set_cons_succ]
 refine held_take 4 (v := ?_) (by simp) (by kernel_rfl) (by kernel_rfl) (by kernel_rfl) (fun _ _ _ h => h) (Or.inl ⟨by rfl, ?_⟩) hHeld ?_
 case refine_2 => (intro w hSw; (try dsimp only at hSw); (try (obtain ⟨s0, s1, s2, s3⟩ := hSw)); simp only [List.getElem_cons_zero, List.getElem_cons_succ]; go_simp <;> with_reducible rfl)
 simp only [List.getElem_cons_zero, List.getElem_cons_succ, Act.put, List.setIfInBounds_toArray, List.set_cons_zero, List.set_cons_succ]
 refine held_sole 5 (by simp) (by kernel_rfl) (fun K hK => ?_)
 simp only [List.getElem_cons_zero, List.getElem_cons_succ]
 go_simp
 refine (show Calls _ _ _ w.drew _ from HC.out).mono ?_
 rintro e w1 ⟨rfl, hT⟩
 have hT2 := DiskTo.step HB.out (fun k hk => .inl hk) hT
 have HT := Lib.hid hT2
 have hFr : Fr (DFoot g m es) w w1 := by
  obtain ⟨_, _, _, h3, _⟩ := HT.out
  exact h3
 have d1 : w1.cell? ⟨b1, 0, none⟩ = some (.pointer (some ⟨gj, 0, none⟩)) := (World.cell?_of_block (hFr.block b1 b1l (HF.out _ (.inl rfl)))).trans c1
 have d2 : w1.cell? ⟨b2, 0, none⟩ = some (.string (str n)) := (World.cell?_of_block (hFr.block b2 b2l (HF.out _ (.inr (.inl rfl))))).trans c2
 have d3 : w1.cell? ⟨gj, 3, none⟩ = some (.pointer (some ⟨g, 0, none⟩)) := (World.cell?_of_block (hFr.block gj gjl (HF.out _ (.inr (.inr rfl))))).trans c3
 clear hT hT2 hFr HC
 refine hK.out _ _ ⟨d1, d2, d3, trivial⟩ (fun hHeld => ?_)
 clear hK K
 try simp only [Act.put, List.setIfInBounds_toArray, List.set_cons_zero, List.set_cons_succ]
 refine held_take 6 (v := ?_) (by simp) (by kernel_rfl) (by kernel_rfl) (by kernel_rfl) (fun _ _ _ h => h) (Or.inl ⟨by rfl, ?_⟩) hHeld ?_
 case refine_2 => (intro w hSw; (try dsimp only at hSw); (try (obtain ⟨s0, s1, s2, s3⟩ := hSw)); simp only [List.getElem_cons_zero, List.getElem_cons_succ]; go_simp <;> with_reducible rfl)
 simp only [List.getElem_cons_zero, List.getElem_cons_succ, Act.put, List.setIfInBounds_toArray, List.set_cons_zero, List.set_cons_succ]
 refine wpAnyH_done (by kernel_rfl) ?_ _
 clear c1 c2 c3 d1 d2 d3
 go_wp2_with fail
 go_ret
 exact ⟨rfl, HT.out⟩
set_option maxHeartbeats 1000000 in
set_option maxRecDepth 100000 in
theorem jsync_any (h : DiskAt w base g m p room es) (n : Nm) (hn : n.length ≤ 1000) (b1 b2 : Nat) (c1 : w.cell? ⟨b1, 0, none⟩ = some (.pointer (some ⟨gj, 0, none⟩))) (c2 : w.cell? ⟨b2, 0, none⟩ = some (.string (str n))) (c3 : w.cell? ⟨gj, 3, none⟩ = some (.pointer (some ⟨g, 0, none⟩))) (hf : ∀ k, k = b1 ∨ k = b2 ∨ k = gj → ¬ DFoot g m es k) :
  Calls Tryz.prog 109 #[.pointer (some ⟨b1, 0, none⟩), .pointer (some ⟨b2, 0, none⟩)] w fun e w' => e = .returned (.int .i64 ((JAct.sync n).run (dkOf p room es)).1) ∧ DiskTo w base g m es ((JAct.sync n).run (dkOf p room es)).2 w' := by
 have HC := Lib.hid (dsync_any (h.below (below_drewN (Below.refl _ w) 1)) (str n) (by rw [str_size]; omega))
 rw [str_nm] at HC
 obtain ⟨R, hR⟩ : ∃ R, R = (JAct.sync n).run (dkOf p room es) := ⟨_, rfl⟩
 change Hid (Calls _ _ _ _ fun e w' => e = .returned (.int .i64 ((JAct.sync n).run (dkOf p room es)).1) ∧ DiskTo _ base g m es ((JAct.sync n).run (dkOf p room es)).2 w') at HC
 rw [← hR] at HC ⊢
 have HF := Lib.hid hf
 have HB := Lib.hid (Fr.of_below (DFoot g m es) (below_drewN (Below.refl _ w) 1))
 have b1l := World.block_lt_of_cell? w ⟨b1, 0, none⟩ c1
 have b2l := World.block_lt_of_cell? w ⟨b2, 0, none⟩ c2
 have gjl := World.block_lt_of_cell? w ⟨gj, 3, none⟩ c3
 clear hR h hf
 go_enter Tryz.func109, Tryz.ntmps109
 go_wp2_with fail
 refine wp_region_held_drew (S := fun W => W.cell? ⟨b1, 0, none⟩ = some (.pointer (some ⟨gj, 0, none⟩)) ∧ W.cell? ⟨b2, 0, none⟩ = some (.string (str n)) ∧ W.cell? ⟨gj, 3, none⟩ = some (.pointer (some ⟨g, 0, none⟩)) ∧ True) (by kernel_rfl) ⟨c1, c2, c3, trivial⟩ (fun hHeld => ?_)
 refine held_take 0 (v := ?_) (by simp) (by kernel_rfl) (by kernel_rfl) (by kernel_rfl) (fun _ _ _ h => h) (Or.inl ⟨by rfl, ?_⟩) hHeld ?_
 case refine_2 => (intro w hSw; (try dsimp only at hSw); (try (obtain ⟨s0, s1, s2, s3⟩ := hSw)); simp only [List.getElem_cons_zero]; go_simp <;> with_reducible rfl)
 simp only [List.getElem_cons_zero, Act.put, List.setIfInBounds_toArray, List.set_cons_zero, List.set_cons_succ]
 refine held_take 1 (v := ?_) (by simp) (by kernel_rfl) (by kernel_rfl) (by kernel_rfl) (fun _ _ _ h => h) (Or.inl ⟨by rfl, ?_⟩) hHeld ?_
 case refine_2 => (intro w hSw; (try dsimp only at hSw); (try (obtain ⟨s0, s1, s2, s3⟩ := hSw)); simp only [List.getElem_cons_zero, List.getElem_cons_succ]; go_simp <;> with_reducible rfl)
 simp only [List.getElem_cons_zero, List.getElem_cons_succ, Act.put, List.setIfInBounds_toArray, List.set_cons_zero, List.set_cons_succ]
 refine held_take 2 (v := ?_) (by simp) (by kernel_rfl) (by kernel_rfl) (by kernel_rfl) (fun _ _ _ h => h) (Or.inl ⟨by rfl, ?_⟩) hHeld ?_
 case refine_2 => (intro w hSw; (try dsimp only at hSw); (try (obtain ⟨s0, s1, s2, s3⟩ := hSw)); simp only [List.getElem_cons_zero, List.getElem_cons_succ]; go_simp <;> with_reducible rfl)
 simp only [List.getElem_cons_zero, List.getElem_cons_succ, Act.put, List.setIfInBounds_toArray, List.set_cons_zero, List.set_cons_succ]
 refine held_take 3 (v := ?_) (by simp) (by kernel_rfl) (by kernel_rfl) (by kernel_rfl) (fun _ _ _ h => h) (Or.inl ⟨by rfl, ?_⟩) hHeld ?_
 case refine_2 => (intro w hSw; (try dsimp only at hSw); (try (obtain ⟨s0, s1, s2, s3⟩ := hSw)); simp only [List.getElem_cons_zero, List.getElem_cons_succ]; go_simp <;> with_reducible rfl)
 simp only [List.getElem_cons_zero, List.getElem_cons_succ, Act.put, List.setIfInBounds_toArray, List.set_cons_zero, List.set_cons_succ]
 refine held_take 4 (v := ?_) (by simp) (by kernel_rfl) (by kernel_rfl) (by kernel_rfl) (fun _ _ _ h => h) (Or.inl ⟨by rfl, ?_⟩) hHeld ?_
 case refine_2 => (intro w hSw; (try dsimp only at hSw); (try (obtain ⟨s0, s1, s2, s3⟩ := hSw)); simp only [List.getElem_cons_zero, List.getElem_cons_succ]; go_simp <;> with_reducible rfl)
 simp only [List.getElem_cons_zero, List.getElem_cons_succ, Act.put, List.setIfInBounds_toArray, List.set_cons_zero, List.set_cons_succ]
 refine held_sole 5 (by simp) (by kernel_rfl) (fun K hK => ?_)
 simp only [List.getElem_cons_zero, List.getElem_cons_succ]
 go_simp
 refine (show Calls _ _ _ w.drew _ from HC.out).mono ?_
 rintro e w1 ⟨rfl, hT⟩
 have hT2 := DiskTo.step HB.out (fun k hk => .inl hk) hT
 have HT := Lib.hid hT2
 have hFr : Fr (DFoot g m es) w w1 := by
  obtain ⟨_, _, _, h3, _⟩ := HT.out
  exact h3
 have d1 : w1.cell? ⟨b1, 0, none⟩ = some (.pointer (some ⟨gj, 0, none⟩)) := (World.cell?_of_block (hFr.block b1 b1l (HF.out _ (.inl rfl)))).trans c1
 have d2 : w1.cell? ⟨b2, 0, none⟩ = some (.string (str n)) := (World.cell?_of_block (hFr.block b2 b2l (HF.out _ (.inr (.inl rfl))))).trans c2
 have d3 : w1.cell? ⟨gj, 3, none⟩ = some (.pointer (some ⟨g, 0, none⟩)) := (World.cell?_of_block (hFr.block gj gjl (HF.out _ (.inr (.inr rfl))))).trans c3
 clear hT hT2 hFr HC
 refine hK.out _ _ ⟨d1, d2, d3, trivial⟩ (fun hHeld => ?_)
 clear hK K
 try simp only [Act.put, List.setIfInBounds_toArray, List.set_cons_zero, List.set_cons_succ]
 refine held_take 6 (v := ?_) (by simp) (by kernel_rfl) (by kernel_rfl) (by kernel_rfl) (fun _ _ _ h => h) (Or.inl ⟨by rfl, ?_⟩) hHeld ?_
 case refine_2 => (intro w hSw; (try dsimp only at hSw); (try (obtain ⟨s0, s1, s2, s3⟩ := hSw)); simp only [List.getElem_cons_zero, List.getElem_cons_succ]; go_simp <;> with_reducible rfl)
 simp only [List.getElem_cons_zero, List.getElem_cons_succ, Act.put, List.setIfInBounds_toArray, List.set_cons_zero, List.set_cons_succ]
 refine wpAnyH_done (by kernel_rfl) ?_ _
 clear c1 c2 c3 d1 d2 d3
 go_wp2_with fail
 go_ret
 exact ⟨rfl, HT.out⟩
set_option maxHeartbeats 1000000 in
set_option maxRecDepth 100000 in
theorem jput_any (h : DiskAt w base g m p room es) (n : Nm) (hn : n.length ≤ 1000) (l : List UInt8) (A : Option Addr) (c b1 b2 b3 : Nat) (c1 : w.cell? ⟨b1, 0, none⟩ = some (.pointer (some ⟨gj, 0, none⟩))) (c2 : w.cell? ⟨b2, 0, none⟩ = some (.string (str n))) (c4 : w.cell? ⟨b3, 0, none⟩ = some (.slice A l.length c)) (c3 : w.cell? ⟨gj, 3, none⟩ = some (.pointer (some ⟨g, 0, none⟩))) (hf : ∀ k, k = b1 ∨ k = b2 ∨ k = b3 ∨ k = gj → ¬ DFoot g m es k)
  (hr : Rd w w.heap.size A (cells l)) (hlc : l.length ≤ c) (hl : l.length ≤ 274877906944) (hfe : ∀ q ∈ es, q.2.f.b.length ≤ 549755813888) (hsz : sizes (sec FE.f es) ≤ 4611686018427387904) (hes : es.length < 4398046511104) :
  Calls Tryz.prog 117 #[.pointer (some ⟨b1, 0, none⟩), .pointer (some ⟨b2, 0, none⟩), .pointer (some ⟨b3, 0, none⟩)] w fun e w' => e = .returned (.int .i64 ((JAct.app n l).run (dkOf p room es)).1) ∧ DiskTo w base g m es ((JAct.app n l).run (dkOf p room es)).2 w' := by
 have hbA : Below w.heap.size w (w.drew.alloc (.cells #[.slice A l.length c] 34)) := ((Below.refl _ w).drew).alloc (by simp) _
 have hrd : Rd (w.drew.alloc (.cells #[.slice A l.length c] 34)) (w.drew.alloc (.cells #[.slice A l.length c] 34)).heap.size (some ⟨w.heap.size, 0, none⟩) ([⟨A, l, c⟩].map Row.val) := by
  have h1 := rd_lit w.drew 34 [.slice A l.length c]
  exact (show Rd _ _ _ _ from h1).more (by simp)
 have hrp : RRd (w.drew.alloc (.cells #[.slice A l.length c] 34)) (w.drew.alloc (.cells #[.slice A l.length c] 34)).heap.size [⟨A, l, c⟩] := fun q hq => by
  obtain rfl := List.mem_singleton.1 hq
  exact ⟨(hr.below hbA).more hbA.size, by show l.length ≤ _; omega⟩
 have HC := Lib.hid (dappend_any (h.below hbA) (str n) (by rw [str_size]; omega) (some ⟨w.heap.size, 0, none⟩) [⟨A, l, c⟩] 1 hrd hrp (by simp) (by simp) (by simp [flat]; omega) hfe hsz hes)
 rw [str_nm] at HC
 obtain ⟨R, hR⟩ : ∃ R, R = (JAct.app n l).run (dkOf p room es) := ⟨_, rfl⟩
 change Hid (Calls _ _ _ _ fun e w' => e = .returned (.int .i64 ((JAct.app n l).run (dkOf p room es)).1) ∧ DiskTo _ base g m es ((JAct.app n l).run (dkOf p room es)).2 w') at HC
 rw [← hR] at HC ⊢
 have HF := Lib.hid hf
 have HB := Lib.hid (Fr.of_below (DFoot g m es) hbA)
 have b1l := World.block_lt_of_cell? w ⟨b1, 0, none⟩ c1
 have b2l := World.block_lt_of_cell? w ⟨b2, 0, none⟩ c2
 have gjl := World.block_lt_of_cell? w ⟨gj, 3, none⟩ c3
 have b3l := World.block_lt_of_cell? w ⟨b3, 0, none⟩ c4
 have e1 : (w.drew.alloc (.cells #[.slice A l.length c] 34)).cell? ⟨b1, 0, none⟩ = some (.pointer (some ⟨gj, 0, none⟩)) := (hbA.cell (p := ⟨b1, 0, none⟩) b1l).trans c1
 have e2 : (w.drew.alloc (.cells #[.slice A l.length c] 34)).cell? ⟨b2, 0, none⟩ = some (.string (str n)) := (hbA.cell (p := ⟨b2, 0, none⟩) b2l).trans c2
 have e3 : (w.drew.alloc (.cells #[.slice A l.length c] 34)).cell? ⟨gj, 3, none⟩ = some (.pointer (some ⟨g, 0, none⟩)) := (hbA.cell (p := ⟨gj, 3, none⟩) gjl).trans c3
 have e4 : (w.drew.alloc (.cells #[.slice A l.length c] 34)).cell? ⟨b3, 0, none⟩ = some (.slice A l.length c) := (hbA.cell (p := ⟨b3, 0, none⟩) b3l).trans c4
 clear hR h hf hrd hrp hr hbA
 go_enter Tryz.func117, Tryz.ntmps117
 go_wp2_with fail
 refine wp_region_held_drew (S := fun W => W.cell? ⟨b1, 0, none⟩ = some (.pointer (some ⟨gj, 0, none⟩)) ∧ W.cell? ⟨b2, 0, none⟩ = some (.string (str n)) ∧ W.cell? ⟨gj, 3, none⟩ = some (.pointer (some ⟨g, 0, none⟩)) ∧ W.cell? ⟨b3, 0, none⟩ = some (.slice A l.length c)) (by kernel_rfl) ⟨c1, c2, c3, c4⟩ (fun hHeld => ?_)
 refine held_take 0 (v := ?_) (by simp) (by kernel_rfl) (by kernel_rfl) (by kernel_rfl) (fun _ _ _ h => h) (Or.inl ⟨by rfl, ?_⟩) hHeld ?_
 case refine_2 => (intro w hSw; (try dsimp only at hSw); (try (obtain ⟨s0, s1, s2, s3⟩ := hSw)); simp only [List.getElem_cons_zero]; go_simp <;> with_reducible rfl)
 simp only [List.getElem_cons_zero, Act.put, List.setIfInBounds_toArray, List.set_cons_zero, List.set_cons_succ]
 refine held_take 1 (v := ?_) (by simp) (by kernel_rfl) (by kernel_rfl) (by kernel_rfl) (fun _ _ _ h => h) (Or.inl ⟨by rfl, ?_⟩) hHeld ?_
 case refine_2 => (intro w hSw; (try dsimp only at hSw); (try (obtain ⟨s0, s1, s2, s3⟩ := hSw)); simp only [List.getElem_cons_zero, List.getElem_cons_succ]; go_simp <;> with_reducible rfl)
 simp only [List.getElem_cons_zero, List.getElem_cons_succ, Act.put, List.setIfInBounds_toArray, List.set_cons_zero, List.set_cons_succ]
 refine held_take 2 (v := ?_) (by simp) (by kernel_rfl) (by kernel_rfl) (by kernel_rfl) (fun _ _ _ h => h) (Or.inl ⟨by rfl, ?_⟩) hHeld ?_
 case refine_2 => (intro w hSw; (try dsimp only at hSw); (try (obtain ⟨s0, s1, s2, s3⟩ := hSw)); simp only [List.getElem_cons_zero, List.getElem_cons_succ]; go_simp <;> with_reducible rfl)
 simp only [List.getElem_cons_zero, List.getElem_cons_succ, Act.put, List.setIfInBounds_toArray, List.set_cons_zero, List.set_cons_succ]
 refine held_take 3 (v := ?_) (by simp) (by kernel_rfl) (by kernel_rfl) (by kernel_rfl) (fun _ _ _ h => h) (Or.inl ⟨by rfl, ?_⟩) hHeld ?_
 case refine_2 => (intro w hSw; (try dsimp only at hSw); (try (obtain ⟨s0, s1, s2, s3⟩ := hSw)); simp only [List.getElem_cons_zero, List.getElem_cons_succ]; go_simp <;> with_reducible rfl)
 simp only [List.getElem_cons_zero, List.getElem_cons_succ, Act.put, List.setIfInBounds_toArray, List.set_cons_zero, List.set_cons_succ]
 refine held_take 4 (v := ?_) (by simp) (by kernel_rfl) (by kernel_rfl) (by kernel_rfl) (fun _ _ _ h => h) (Or.inl ⟨by rfl, ?_⟩) hHeld ?_
 case refine_2 => (intro w hSw; (try dsimp only at hSw); (try (obtain ⟨s0, s1, s2, s3⟩ := hSw)); simp only [List.getElem_cons_zero, List.getElem_cons_succ]; go_simp <;> with_reducible rfl)
 simp only [List.getElem_cons_zero, List.getElem_cons_succ, Act.put, List.setIfInBounds_toArray, List.set_cons_zero, List.set_cons_succ]
 refine held_take 5 (v := ?_) (by simp) (by kernel_rfl) (by kernel_rfl) (by kernel_rfl) (fun _ _ _ h => h) (Or.inl ⟨by rfl, ?_⟩) hHeld ?_
 case refine_2 => (intro w hSw; (try dsimp only at hSw); (try (obtain ⟨s0, s1, s2, s3⟩ := hSw)); simp only [List.getElem_cons_zero, List.getElem_cons_succ]; go_simp <;> with_reducible rfl)
 simp only [List.getElem_cons_zero, List.getElem_cons_succ, Act.put, List.setIfInBounds_toArray, List.set_cons_zero, List.set_cons_succ]
 refine held_sole 6 (by simp) (by kernel_rfl) (fun K hK => ?_)
 simp only [List.getElem_cons_zero, List.getElem_cons_succ]
 go_simp
 refine hK.out _ _ ⟨e1, e2, e3, e4⟩ (fun hHeld => ?_)
 clear hK K
 try simp only [Act.put, List.setIfInBounds_toArray, List.set_cons_zero, List.set_cons_succ]
 refine held_sole 7 (by simp) (by kernel_rfl) (fun K hK => ?_)
 simp only [List.getElem_cons_zero, List.getElem_cons_succ]
 go_simp
 refine HC.out.mono ?_
 rintro e w1 ⟨rfl, hT⟩
 have hT2 := DiskTo.step HB.out (fun k hk => .inl hk) hT
 have HT := Lib.hid hT2
 have hFr : Fr (DFoot g m es) w w1 := by
  obtain ⟨_, _, _, h3, _⟩ := HT.out
  exact h3
 have d1 : w1.cell? ⟨b1, 0, none⟩ = some (.pointer (some ⟨gj, 0, none⟩)) := (World.cell?_of_block (hFr.block b1 b1l (HF.out _ (.inl rfl)))).trans c1
 have d2 : w1.cell? ⟨b2, 0, none⟩ = some (.string (str n)) := (World.cell?_of_block (hFr.block b2 b2l (HF.out _ (.inr (.inl rfl))))).trans c2
 have d3 : w1.cell? ⟨gj, 3, none⟩ = some (.pointer (some ⟨g, 0, none⟩)) := (World.cell?_of_block (hFr.block gj gjl (HF.out _ (.inr (.inr (.inr rfl)))))).trans c3
 have d4 : w1.cell? ⟨b3, 0, none⟩ = some (.slice A l.length c) := (World.cell?_of_block (hFr.block b3 b3l (HF.out _ (.inr (.inr (.inl rfl)))))).trans c4
 clear hT hT2 hFr HC e1 e2 e3 e4
 refine hK.out _ _ ⟨d1, d2, d3, d4⟩ (fun hHeld => ?_)
 clear hK K
 try simp only [Act.put, List.setIfInBounds_toArray, List.set_cons_zero, List.set_cons_succ]
 refine held_take 8 (v := ?_) (by simp) (by kernel_rfl) (by kernel_rfl) (by kernel_rfl) (fun _ _ _ h => h) (Or.inl ⟨by rfl, ?_⟩) hHeld ?_
 case refine_2 => (intro w hSw; (try dsimp only at hSw); (try (obtain ⟨s0, s1, s2, s3⟩ := hSw)); simp only [List.getElem_cons_zero, List.getElem_cons_succ]; go_simp <;> with_reducible rfl)
 simp only [List.getElem_cons_zero, List.getElem_cons_succ, Act.put, List.setIfInBounds_toArray, List.set_cons_zero, List.set_cons_succ]
 refine wpAnyH_done (by kernel_rfl) ?_ _
 clear c1 c2 c3 c4 d1 d2 d3 d4
 go_wp2_with fail
 go_ret
 exact ⟨rfl, HT.out⟩
set_option maxHeartbeats 1000000 in
set_option maxRecDepth 100000 in
theorem jren_any (h : DiskAt w base g m p room es) (b1 : Nat) (c1 : w.cell? ⟨b1, 0, none⟩ = some (.pointer (some ⟨gj, 0, none⟩))) (c3 : w.cell? ⟨gj, 3, none⟩ = some (.pointer (some ⟨g, 0, none⟩))) (hes : es.length < 4398046511104) :
  Calls Tryz.prog 70 #[.pointer (some ⟨b1, 0, none⟩)] w fun e w' => e = .returned (.int .i64 (JAct.ren.run (dkOf p room es)).1) ∧ DiskTo w base g m es (JAct.ren.run (dkOf p room es)).2 w' := by
 have HC := Lib.hid (drename_any h ⟨#[109, 101, 116, 97, 46, 110, 101, 119]⟩ ⟨#[109, 101, 116, 97]⟩ (by show 8 ≤ _; omega) (by show 4 ≤ _; omega) hes)
 obtain ⟨R, hR⟩ : ∃ R, R = JAct.ren.run (dkOf p room es) := ⟨_, rfl⟩
 change Hid (Calls _ _ _ _ fun e w' => e = .returned (.int .i64 (JAct.ren.run (dkOf p room es)).1) ∧ DiskTo _ base g m es (JAct.ren.run (dkOf p room es)).2 w') at HC
 rw [← hR] at HC ⊢
 clear hR h
 go_enter Tryz.func70, Tryz.ntmps70
 go_wp2_with fail
 refine HC.out.mono ?_
 rintro e w1 ⟨rfl, hT⟩
 have HT := Lib.hid hT
 clear hT c1 c3
 go_wp2_with fail
 go_ret
 exact ⟨rfl, HT.out⟩
set_option maxHeartbeats 1000000 in
set_option maxRecDepth 100000 in
theorem jcutO_any (h : DiskAt w base g m p room es) {E : Nat → Prop} {s : SegP} (b1 b13 : Nat) (hM : SegM w E ⟨b13, 0, none⟩ s) (hE : ∀ k, E k → k < w.heap.size) (c1 : w.cell? ⟨b1, 0, none⟩ = some (.pointer (some ⟨g, 0, none⟩))) (hf : ¬ DFoot g m es b1) (ht : Tab w) :
  Calls Tryz.prog 54 #[.pointer (some ⟨b1, 0, none⟩), .pointer (some ⟨b13, 0, none⟩)] w fun e w' => e = .returned (.int .i64 ((JAct.cut (jName s.k) s.long).run (dkOf p room es)).1) ∧ DiskTo w base g m es ((JAct.cut (jName s.k) s.long).run (dkOf p room es)).2 w' := by
 have hlg := hM.longB
 have hkb := hM.rd.num.k
 have hnl := jName_len s.k hkb
 have HNA := Lib.hid ((hM.keep (w' := w.drew) (Nat.le_refl _) (fun _ _ => rfl)).nameJ (ht.below (below_drewN (Below.refl _ w) 1)))
 have HLG := Lib.hid (fun (w2 : World) (hb : Below w.heap.size w w2) => (hM.keep hb.size (fun k hk => hb.block k (hE k hk))).long)
 have HCU := Lib.hid (fun (w2 : World) (hb : Below w.heap.size w w2) => dcutF_any (h.below hb) (str (jName s.k)) (by rw [str_size]; omega) s.long (by omega))
 obtain ⟨n, hn⟩ : ∃ n, n = jName s.k := ⟨_, rfl⟩
 obtain ⟨z, hz⟩ : ∃ n, n = s.long := ⟨_, rfl⟩
 rw [← hn] at HNA HCU ⊢
 rw [← hz] at HLG HCU ⊢
 rw [str_nm] at HCU
 obtain ⟨R, hR⟩ : ∃ R, R = (JAct.cut n z).run (dkOf p room es) := ⟨_, rfl⟩
 change Hid (∀ (w2 : World) (hb : Below w.heap.size w w2), Calls _ _ _ _ fun e w' => e = .returned (.int .i64 ((JAct.cut n z).run (dkOf p room es)).1) ∧ DiskTo _ base g m es ((JAct.cut n z).run (dkOf p room es)).2 w') at HCU
 rw [← hR] at HCU ⊢
 have HF := Lib.hid hf
 have b1l := World.block_lt_of_cell? w ⟨b1, 0, none⟩ c1
 clear hR h hf hM hE hlg hkb hnl hn hz ht
 go_enter Tryz.func54, Tryz.ntmps54
 go_wp2_with fail
 refine wp_region_held_drew (S := fun W => W.cell? ⟨b1, 0, none⟩ = some (.pointer (some ⟨g, 0, none⟩)) ∧ True ∧ True ∧ True) (by kernel_rfl) ⟨c1, trivial, trivial, trivial⟩ (fun hHeld => ?_)
 refine held_take 0 (v := ?_) (by simp) (by kernel_rfl) (by kernel_rfl) (by kernel_rfl) (fun _ _ _ h => h) (Or.inl ⟨by rfl, ?_⟩) hHeld ?_
 case refine_2 => (intro w hSw; (try dsimp only at hSw); (try (obtain ⟨s0, s1, s2, s3⟩ := hSw)); simp only [List.getElem_cons_zero]; go_simp <;> with_reducible rfl)
 simp only [List.getElem_cons_zero, Act.put, List.setIfInBounds_toArray, List.set_cons_zero, List.set_cons_succ]
 refine held_take 1 (v := ?_) (by simp) (by kernel_rfl) (by kernel_rfl) (by kernel_rfl) (fun _ _ _ h => h) (Or.inl ⟨by rfl, ?_⟩) hHeld ?_
 case refine_2 => (intro w hSw; (try dsimp only at hSw); (try (obtain ⟨s0, s1, s2, s3⟩ := hSw)); simp only [List.getElem_cons_zero, List.getElem_cons_succ]; go_simp <;> with_reducible rfl)
 simp only [List.getElem_cons_zero, List.getElem_cons_succ, Act.put, List.setIfInBounds_toArray, List.set_cons_zero, List.set_cons_succ]
 refine held_take 3 (v := ?_) (by simp) (by kernel_rfl) (by kernel_rfl) (by kernel_rfl) (fun _ _ _ h => h) (Or.inl ⟨by rfl, ?_⟩) hHeld ?_
 case refine_2 => (intro w hSw; (try dsimp only at hSw); (try (obtain ⟨s0, s1, s2, s3⟩ := hSw)); simp only [List.getElem_cons_zero, List.getElem_cons_succ]; go_simp <;> with_reducible rfl)
 simp only [List.getElem_cons_zero, List.getElem_cons_succ, Act.put, List.setIfInBounds_toArray, List.set_cons_zero, List.set_cons_succ]
 refine held_sole 2 (by simp) (by kernel_rfl) (fun K hK => ?_)
 simp only [List.getElem_cons_zero, List.getElem_cons_succ]
 go_simp
 refine (show Calls _ _ _ w.drew _ from HNA.out).mono ?_
 rintro e w1 ⟨rfl, hb1⟩
 have hB1 : Below w.heap.size w w1 := ((Below.refl _ w).drew).trans hb1
 have d1 : w1.cell? ⟨b1, 0, none⟩ = some (.pointer (some ⟨g, 0, none⟩)) := (hB1.cell (p := ⟨b1, 0, none⟩) b1l).trans c1
 have HB1 := Lib.hid hB1
 clear hb1 hB1 HNA
 refine hK.out _ _ ⟨d1, trivial, trivial, trivial⟩ (fun hHeld => ?_)
 clear hK K
 try simp only [Act.put, List.setIfInBounds_toArray, List.set_cons_zero, List.set_cons_succ]
 refine held_sole 4 (by simp) (by kernel_rfl) (fun K hK => ?_)
 simp only [List.getElem_cons_zero, List.getElem_cons_succ]
 go_simp
 refine (HLG.out w1 HB1.out).mono ?_
 rintro e w2 ⟨rfl, hb2⟩
 have hB2 : Below w.heap.size w w2 := HB1.out.trans (hb2.mono HB1.out.size)
 have d2 : w2.cell? ⟨b1, 0, none⟩ = some (.pointer (some ⟨g, 0, none⟩)) := (hB2.cell (p := ⟨b1, 0, none⟩) b1l).trans c1
 have HB2 := Lib.hid hB2
 clear hb2 hB2 HLG
 refine hK.out _ _ ⟨d2, trivial, trivial, trivial⟩ (fun hHeld => ?_)
 clear hK K
 try simp only [Act.put, List.setIfInBounds_toArray, List.set_cons_zero, List.set_cons_succ]
 refine held_sole 5 (by simp) (by kernel_rfl) (fun K hK => ?_)
 simp only [List.getElem_cons_zero, List.getElem_cons_succ]
 go_simp
 refine (HCU.out w2 HB2.out).mono ?_
 rintro e w3 ⟨rfl, hT⟩
 have hT2 := DiskTo.step (Fr.of_below (DFoot g m es) HB2.out) (fun k hk => .inl hk) hT
 have HT := Lib.hid hT2
 have hFr : Fr (DFoot g m es) w w3 := by
  obtain ⟨_, _, _, h3, _⟩ := HT.out
  exact h3
 have d3 : w3.cell? ⟨b1, 0, none⟩ = some (.pointer (some ⟨g, 0, none⟩)) := (World.cell?_of_block (hFr.block b1 b1l HF.out)).trans c1
 clear hT hT2 hFr HCU
 refine hK.out _ _ ⟨d3, trivial, trivial, trivial⟩ (fun hHeld => ?_)
 clear hK K
 try simp only [Act.put, List.setIfInBounds_toArray, List.set_cons_zero, List.set_cons_succ]
 refine held_take 6 (v := ?_) (by simp) (by kernel_rfl) (by kernel_rfl) (by kernel_rfl) (fun _ _ _ h => h) (Or.inl ⟨by rfl, ?_⟩) hHeld ?_
 case refine_2 => (intro w hSw; (try dsimp only at hSw); (try (obtain ⟨s0, s1, s2, s3⟩ := hSw)); simp only [List.getElem_cons_zero, List.getElem_cons_succ]; go_simp <;> with_reducible rfl)
 simp only [List.getElem_cons_zero, List.getElem_cons_succ, Act.put, List.setIfInBounds_toArray, List.set_cons_zero, List.set_cons_succ]
 refine wpAnyH_done (by kernel_rfl) ?_ _
 clear c1 d1 d2 d3
 go_wp2_with fail
 go_ret
 exact ⟨rfl, HT.out⟩
set_option maxHeartbeats 1000000 in
set_option maxRecDepth 100000 in
theorem jcutS_any (h : DiskAt w base g m p room es) {E : Nat → Prop} {s : SegP} {ad : Addr} (b1 b2 b3 : Nat) (z : Int) (hz : -9223372036854775808 ≤ z ∧ z ≤ 9223372036854775807) (hM : SegM w E ad s) (c1 : w.cell? ⟨b1, 0, none⟩ = some (.pointer (some ⟨gj, 0, none⟩))) (c2 : w.cell? ⟨b2, 0, none⟩ = some (.pointer (some ad))) (c4 : w.cell? ⟨b3, 0, none⟩ = some (.int .i64 z)) (c3 : w.cell? ⟨gj, 3, none⟩ = some (.pointer (some ⟨g, 0, none⟩))) (hf : ∀ k, k = b1 ∨ k = b2 ∨ k = b3 ∨ k = gj → ¬ DFoot g m es k) (ht : Tab w) :
  Calls Tryz.prog 61 #[.pointer (some ⟨b1, 0, none⟩), .pointer (some ⟨b2, 0, none⟩), .pointer (some ⟨b3, 0, none⟩)] w fun e w' => e = .returned (.int .i64 ((JAct.cut (jName s.k) z).run (dkOf p room es)).1) ∧ DiskTo w base g m es ((JAct.cut (jName s.k) z).run (dkOf p room es)).2 w' := by
 have hkb := hM.rd.num.k
 have hnl := jName_len s.k hkb
 have HNA := Lib.hid ((hM.keep (w' := w.drew) (Nat.le_refl _) (fun _ _ => rfl)).nameJ (ht.below (below_drewN (Below.refl _ w) 1)))
 have HCU := Lib.hid (fun (w2 : World) (hb : Below w.heap.size w w2) => dcutF_any (h.below hb) (str (jName s.k)) (by rw [str_size]; omega) z hz)
 obtain ⟨n, hn⟩ : ∃ n, n = jName s.k := ⟨_, rfl⟩
 rw [← hn] at HNA HCU ⊢
 rw [str_nm] at HCU
 obtain ⟨R, hR⟩ : ∃ R, R = (JAct.cut n z).run (dkOf p room es) := ⟨_, rfl⟩
 change Hid (∀ (w2 : World) (hb : Below w.heap.size w w2), Calls _ _ _ _ fun e w' => e = .returned (.int .i64 ((JAct.cut n z).run (dkOf p room es)).1) ∧ DiskTo _ base g m es ((JAct.cut n z).run (dkOf p room es)).2 w') at HCU
 rw [← hR] at HCU ⊢
 have HF := Lib.hid hf
 have b1l := World.block_lt_of_cell? w ⟨b1, 0, none⟩ c1
 have b2l := World.block_lt_of_cell? w ⟨b2, 0, none⟩ c2
 have gjl := World.block_lt_of_cell? w ⟨gj, 3, none⟩ c3
 have b3l := World.block_lt_of_cell? w ⟨b3, 0, none⟩ c4
 obtain ⟨b, o, _, _, _, _, _, rfl, _⟩ := hM.rd.cells
 clear hR h hf hM hkb hnl hn ht hz
 go_enter Tryz.func61, Tryz.ntmps61
 go_wp2_with fail
 refine wp_region_held_drew (S := fun W => W.cell? ⟨b1, 0, none⟩ = some (.pointer (some ⟨gj, 0, none⟩)) ∧ W.cell? ⟨b2, 0, none⟩ = some (.pointer (some ⟨b, o, none⟩)) ∧ W.cell? ⟨gj, 3, none⟩ = some (.pointer (some ⟨g, 0, none⟩)) ∧ W.cell? ⟨b3, 0, none⟩ = some (.int .i64 z)) (by kernel_rfl) ⟨c1, c2, c3, c4⟩ (fun hHeld => ?_)
 refine held_take 0 (v := ?_) (by simp) (by kernel_rfl) (by kernel_rfl) (by kernel_rfl) (fun _ _ _ h => h) (Or.inl ⟨by rfl, ?_⟩) hHeld ?_
 case refine_2 => (intro w hSw; (try dsimp only at hSw); (try (obtain ⟨s0, s1, s2, s3⟩ := hSw)); simp only [List.getElem_cons_zero]; go_simp <;> with_reducible rfl)
 simp only [List.getElem_cons_zero, Act.put, List.setIfInBounds_toArray, List.set_cons_zero, List.set_cons_succ]
 refine held_take 1 (v := ?_) (by simp) (by kernel_rfl) (by kernel_rfl) (by kernel_rfl) (fun _ _ _ h => h) (Or.inl ⟨by rfl, ?_⟩) hHeld ?_
 case refine_2 => (intro w hSw; (try dsimp only at hSw); (try (obtain ⟨s0, s1, s2, s3⟩ := hSw)); simp only [List.getElem_cons_zero, List.getElem_cons_succ]; go_simp <;> with_reducible rfl)
 simp only [List.getElem_cons_zero, List.getElem_cons_succ, Act.put, List.setIfInBounds_toArray, List.set_cons_zero, List.set_cons_succ]
 refine held_take 2 (v := ?_) (by simp) (by kernel_rfl) (by kernel_rfl) (by kernel_rfl) (fun _ _ _ h => h) (Or.inl ⟨by rfl, ?_⟩) hHeld ?_
 case refine_2 => (intro w hSw; (try dsimp only at hSw); (try (obtain ⟨s0, s1, s2, s3⟩ := hSw)); simp only [List.getElem_cons_zero, List.getElem_cons_succ]; go_simp <;> with_reducible rfl)
 simp only [List.getElem_cons_zero, List.getElem_cons_succ, Act.put, List.setIfInBounds_toArray, List.set_cons_zero, List.set_cons_succ]
 refine held_take 3 (v := ?_) (by simp) (by kernel_rfl) (by kernel_rfl) (by kernel_rfl) (fun _ _ _ h => h) (Or.inl ⟨by rfl, ?_⟩) hHeld ?_
 case refine_2 => (intro w hSw; (try dsimp only at hSw); (try (obtain ⟨s0, s1, s2, s3⟩ := hSw)); simp only [List.getElem_cons_zero, List.getElem_cons_succ]; go_simp <;> with_reducible rfl)
 simp only [List.getElem_cons_zero, List.getElem_cons_succ, Act.put, List.setIfInBounds_toArray, List.set_cons_zero, List.set_cons_succ]
 refine held_take 4 (v := ?_) (by simp) (by kernel_rfl) (by kernel_rfl) (by kernel_rfl) (fun _ _ _ h => h) (Or.inl ⟨by rfl, ?_⟩) hHeld ?_
 case refine_2 => (intro w hSw; (try dsimp only at hSw); (try (obtain ⟨s0, s1, s2, s3⟩ := hSw)); simp only [List.getElem_cons_zero, List.getElem_cons_succ]; go_simp <;> with_reducible rfl)
 simp only [List.getElem_cons_zero, List.getElem_cons_succ, Act.put, List.setIfInBounds_toArray, List.set_cons_zero, List.set_cons_succ]
 refine held_take 6 (v := ?_) (by simp) (by kernel_rfl) (by kernel_rfl) (by kernel_rfl) (fun _ _ _ h => h) (Or.inl ⟨by rfl, ?_⟩) hHeld ?_
 case refine_2 => (intro w hSw; (try dsimp only at hSw); (try (obtain ⟨s0, s1, s2, s3⟩ := hSw)); simp only [List.getElem_cons_zero, List.getElem_cons_succ]; go_simp <;> with_reducible rfl)
 simp only [List.getElem_cons_zero, List.getElem_cons_succ, Act.put, List.setIfInBounds_toArray, List.set_cons_zero, List.set_cons_succ]
 refine held_sole 5 (by simp) (by kernel_rfl) (fun K hK => ?_)
 simp only [List.getElem_cons_zero, List.getElem_cons_succ]
 go_simp
 refine (show Calls _ _ _ w.drew _ from HNA.out).mono ?_
 rintro e w1 ⟨rfl, hb1⟩
 have hB1 : Below w.heap.size w w1 := ((Below.refl _ w).drew).trans hb1
 have e1 : w1.cell? ⟨b1, 0, none⟩ = some (.pointer (some ⟨gj, 0, none⟩)) := (hB1.cell (p := ⟨b1, 0, none⟩) b1l).trans c1
 have e2 : w1.cell? ⟨b2, 0, none⟩ = some (.pointer (some ⟨b, o, none⟩)) := (hB1.cell (p := ⟨b2, 0, none⟩) b2l).trans c2
 have e3 : w1.cell? ⟨gj, 3, none⟩ = some (.pointer (some ⟨g, 0, none⟩)) := (hB1.cell (p := ⟨gj, 3, none⟩) gjl).trans c3
 have e4 : w1.cell? ⟨b3, 0, none⟩ = some (.int .i64 z) := (hB1.cell (p := ⟨b3, 0, none⟩) b3l).trans c4
 have HB1 := Lib.hid hB1
 clear hb1 hB1 HNA
 refine hK.out _ _ ⟨e1, e2, e3, e4⟩ (fun hHeld => ?_)
 clear hK K
 try simp only [Act.put, List.setIfInBounds_toArray, List.set_cons_zero, List.set_cons_succ]
 refine held_sole 7 (by simp) (by kernel_rfl) (fun K hK => ?_)
 simp only [List.getElem_cons_zero, List.getElem_cons_succ]
 go_simp
 refine (HCU.out w1 HB1.out).mono ?_
 rintro e w3 ⟨rfl, hT⟩
 have hT2 := DiskTo.step (Fr.of_below (DFoot g m es) HB1.out) (fun k hk => .inl hk) hT
 have HT := Lib.hid hT2
 have hFr : Fr (DFoot g m es) w w3 := by
  obtain ⟨_, _, _, h3, _⟩ := HT.out
  exact h3
 have d1 : w3.cell? ⟨b1, 0, none⟩ = some (.pointer (some ⟨gj, 0, none⟩)) := (World.cell?_of_block (hFr.block b1 b1l (HF.out _ (.inl rfl)))).trans c1
 have d2 : w3.cell? ⟨b2, 0, none⟩ = some (.pointer (some ⟨b, o, none⟩)) := (World.cell?_of_block (hFr.block b2 b2l (HF.out _ (.inr (.inl rfl))))).trans c2
 have d3 : w3.cell? ⟨gj, 3, none⟩ = some (.pointer (some ⟨g, 0, none⟩)) := (World.cell?_of_block (hFr.block gj gjl (HF.out _ (.inr (.inr (.inr rfl)))))).trans c3
 have d4 : w3.cell? ⟨b3, 0, none⟩ = some (.int .i64 z) := (World.cell?_of_block (hFr.block b3 b3l (HF.out _ (.inr (.inr (.inl rfl)))))).trans c4
 clear hT hT2 hFr HCU e1 e2 e3 e4
 refine hK.out _ _ ⟨d1, d2, d3, d4⟩ (fun hHeld => ?_)
 clear hK K
 try simp only [Act.put, List.setIfInBounds_toArray, List.set_cons_zero, List.set_cons_succ]
 refine held_take 8 (v := ?_) (by simp) (by kernel_rfl) (by kernel_rfl) (by kernel_rfl) (fun _ _ _ h => h) (Or.inl ⟨by rfl, ?_⟩) hHeld ?_
 case refine_2 => (intro w hSw; (try dsimp only at hSw); (try (obtain ⟨s0, s1, s2, s3⟩ := hSw)); simp only [List.getElem_cons_zero, List.getElem_cons_succ]; go_simp <;> with_reducible rfl)
 simp only [List.getElem_cons_zero, List.getElem_cons_succ, Act.put, List.setIfInBounds_toArray, List.set_cons_zero, List.set_cons_succ]
 refine wpAnyH_done (by kernel_rfl) ?_ _
 clear c1 c2 c3 c4 d1 d2 d3 d4
 go_wp2_with fail
 go_ret
 exact ⟨rfl, HT.out⟩
end
end Go.Proofs.YtgeofijddhflaaaGreatDoor
