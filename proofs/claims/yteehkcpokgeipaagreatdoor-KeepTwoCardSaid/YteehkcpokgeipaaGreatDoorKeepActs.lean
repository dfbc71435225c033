/- What keep.Save does, act by act: each a function value of its own. Condition: the disk is a call's own, and within bounds. -/
import Derived.Test.YteehkcpokgeipaaGreatDoorKeepIdx
import Derived.Test.YteehkcpokgeipaaGreatDoorKeepFile
import Derived.Test.YteehkcpokgeipaaGreatDoorDiskApp
import Derived.Test.YteehkcpokgeipaaGreatDoorDiskRm
set_option linter.unusedVariables false
namespace Go.Proofs.YteehkcpokgeipaaGreatDoor
open Go.RowKit Go.Maps Go.Sort Go.Shelf Oct

def newN : Nm := [115, 46, 110, 101, 119]
inductive SAct
  | rm
  | app (p : List UInt8)
  | sync
  | ren (i : Int)
def SAct.run (d : DkD) : SAct → Int × DkD
  | .rm => d.remove newN
  | .app p => d.append newN [p]
  | .sync => d.sync newN
  | .ren i => d.rename newN (sName i)
section
variable {w : World} {base g m : Nat} {p : PWD} {room : Int} {es : List (Nm × FE)}
set_option maxHeartbeats 1000000 in
set_option maxRecDepth 100000 in
theorem act1_any (h : DiskAt w base g m p room es) (b : Nat) (c0 : w.cell? ⟨b, 0, none⟩ = some (.pointer (some ⟨g, 0, none⟩))) :
    Calls Tryz.prog 18 #[.pointer (some ⟨b, 0, none⟩)] w fun e w' => e = .returned (.int .i64 (SAct.run (dkOf p room es) .rm).1) ∧ DiskTo w base g m es (SAct.run (dkOf p room es) .rm).2 w' := by
  have HC := Lib.hid (dremove_any h ⟨#[115, 46, 110, 101, 119]⟩ (by show 5 ≤ _; omega))
  obtain ⟨R, hR⟩ : ∃ R, R = SAct.run (dkOf p room es) .rm := ⟨_, rfl⟩
  change Hid (Calls _ _ _ _ fun e w' => e = .returned (.int .i64 (SAct.run (dkOf p room es) .rm).1) ∧ DiskTo w base g m es (SAct.run (dkOf p room es) .rm).2 w') at HC
  rw [← hR] at HC ⊢
  clear hR h
  go_enter Tryz.func18, Tryz.ntmps18
  go_wp2_with fail
  refine HC.out.mono ?_
  rintro e w1 ⟨rfl, hT⟩
  have HT := Lib.hid hT
  clear hT
  go_wp2_with fail
  go_ret
  exact ⟨rfl, HT.out⟩
set_option maxHeartbeats 1000000 in
set_option maxRecDepth 100000 in
theorem act3_any (h : DiskAt w base g m p room es) (b : Nat) (c0 : w.cell? ⟨b, 0, none⟩ = some (.pointer (some ⟨g, 0, none⟩))) :
    Calls Tryz.prog 22 #[.pointer (some ⟨b, 0, none⟩)] w fun e w' => e = .returned (.int .i64 (SAct.run (dkOf p room es) .sync).1) ∧ DiskTo w base g m es (SAct.run (dkOf p room es) .sync).2 w' := by
  have HC := Lib.hid (dsync_any h ⟨#[115, 46, 110, 101, 119]⟩ (by show 5 ≤ _; omega))
  obtain ⟨R, hR⟩ : ∃ R, R = SAct.run (dkOf p room es) .sync := ⟨_, rfl⟩
  change Hid (Calls _ _ _ _ fun e w' => e = .returned (.int .i64 (SAct.run (dkOf p room es) .sync).1) ∧ DiskTo w base g m es (SAct.run (dkOf p room es) .sync).2 w') at HC
  rw [← hR] at HC ⊢
  clear hR h
  go_enter Tryz.func22, Tryz.ntmps22
  go_wp2_with fail
  refine HC.out.mono ?_
  rintro e w1 ⟨rfl, hT⟩
  have HT := Lib.hid hT
  clear hT
  go_wp2_with fail
  go_ret
  exact ⟨rfl, HT.out⟩
set_option maxHeartbeats 1000000 in
set_option maxRecDepth 100000 in
theorem act2_any (h : DiskAt w base g m p room es) (b b' : Nat) (A : Option Addr) (l : List UInt8) (c : Nat) (c0 : w.cell? ⟨b, 0, none⟩ = some (.pointer (some ⟨g, 0, none⟩))) (c1 : w.cell? ⟨b', 0, none⟩ = some (.slice A l.length c))
    (hr : Rd w w.heap.size A (cells l)) (hlc : l.length ≤ c) (hl : l.length ≤ 274877906944) (hfe : ∀ q ∈ es, q.2.f.b.length ≤ 549755813888) (hsz : sizes (sec FE.f es) ≤ 4611686018427387904) (hes : es.length < 4398046511104) :
    Calls Tryz.prog 20 #[.pointer (some ⟨b, 0, none⟩), .pointer (some ⟨b', 0, none⟩)] w fun e w' => e = .returned (.int .i64 (SAct.run (dkOf p room es) (.app l)).1) ∧ DiskTo w base g m es (SAct.run (dkOf p room es) (.app l)).2 w' := by
  have hbA := (Below.refl w.heap.size w).alloc (Nat.le_refl _) (.cells #[.slice A l.length c] 27)
  have hrd : Rd (w.alloc (.cells #[.slice A l.length c] 27)) (w.alloc (.cells #[.slice A l.length c] 27)).heap.size (some ⟨w.heap.size, 0, none⟩) ([⟨A, l, c⟩].map Row.val) := by
    have h1 := rd_lit w 27 [.slice A l.length c]
    exact (show Rd _ _ _ _ from h1).more (by simp)
  have hrp : RRd (w.alloc (.cells #[.slice A l.length c] 27)) (w.alloc (.cells #[.slice A l.length c] 27)).heap.size [⟨A, l, c⟩] := fun q hq => by
    obtain rfl := List.mem_singleton.1 hq
    exact ⟨(hr.below hbA).more hbA.size, by show l.length ≤ _; omega⟩
  have HC := Lib.hid (dappend_any (h.below hbA) ⟨#[115, 46, 110, 101, 119]⟩ (by show 5 ≤ _; omega) (some ⟨w.heap.size, 0, none⟩) [⟨A, l, c⟩] 1 hrd hrp (by simp) (by simp) (by simp [flat]; omega) hfe hsz hes)
  obtain ⟨R, hR⟩ : ∃ R, R = SAct.run (dkOf p room es) (.app l) := ⟨_, rfl⟩
  change Hid (Calls _ _ _ _ fun e w' => e = .returned (.int .i64 (SAct.run (dkOf p room es) (.app l)).1) ∧ DiskTo _ base g m es (SAct.run (dkOf p room es) (.app l)).2 w') at HC
  rw [← hR] at HC ⊢
  have HB := Lib.hid (Fr.of_below (DFoot g m es) hbA)
  clear hR h hrd hrp hr hbA
  go_enter Tryz.func20, Tryz.ntmps20
  go_wp2_with fail
  refine HC.out.mono ?_
  rintro e w1 ⟨rfl, hT⟩
  have HT := Lib.hid (DiskTo.step HB.out (fun k hk => .inl hk) hT)
  clear hT
  go_wp2_with fail
  go_ret
  exact ⟨rfl, HT.out⟩
set_option maxHeartbeats 1000000 in
set_option maxRecDepth 100000 in
theorem act4_any (h : DiskAt w base g m p room es) (b b' : Nat) (i : Int) (hi : -9223372036854775808 ≤ i ∧ i ≤ 9223372036854775807) (c0 : w.cell? ⟨b, 0, none⟩ = some (.pointer (some ⟨g, 0, none⟩))) (c1 : w.cell? ⟨b', 0, none⟩ = some (.int .i64 i)) (ht : Tab w)
    (hes : es.length < 4398046511104) (hnb : ¬ DFoot g m es b) (hnb' : ¬ DFoot g m es b') :
    Calls Tryz.prog 24 #[.pointer (some ⟨b, 0, none⟩), .pointer (some ⟨b', 0, none⟩)] w fun e w' => e = .returned (.int .i64 (SAct.run (dkOf p room es) (.ren i)).1) ∧ DiskTo w base g m es (SAct.run (dkOf p room es) (.ren i)).2 w' := by
  have HNA := Lib.hid (fun k => kname_any i hi (w.drewN k) (ht.below (below_drewN (Below.refl _ w) k)))
  have HLN := Lib.hid (sName_len i hi)
  have H := Lib.hid h
  obtain ⟨R, hR⟩ : ∃ R, R = SAct.run (dkOf p room es) (.ren i) := ⟨_, rfl⟩
  rw [← hR]
  have HRR := Lib.hid hR
  clear hR h ht
  have b0 := World.block_lt_of_cell? w ⟨b, 0, none⟩ c0
  have b1 := World.block_lt_of_cell? w ⟨b', 0, none⟩ c1
  go_enter Tryz.func24, Tryz.ntmps24
  go_wp2_with fail
  refine wp_region_held_drew (S := fun W => W.cell? ⟨b, 0, none⟩ = some (.pointer (some ⟨g, 0, none⟩)) ∧ W.cell? ⟨b', 0, none⟩ = some (.int .i64 i) ∧ True ∧ True) (by kernel_rfl) ⟨c0, c1, trivial, trivial⟩ (fun hHeld => ?_)
  refine held_take 0 (v := ?_) (by simp) (by kernel_rfl) (by kernel_rfl) (by kernel_rfl) (fun _ _ _ h => h) (Or.inl ⟨by rfl, ?_⟩) hHeld ?_
  case refine_2 => (intro w hSw; (try dsimp only at hSw); (try (obtain ⟨s0, s1, s2, s3⟩ := hSw)); simp only [List.getElem_cons_zero]; go_simp <;> with_reducible rfl)
  simp only [List.getElem_cons_zero, Act.put, List.setIfInBounds_toArray, List.set_cons_zero, List.set_cons_succ]
  refine held_take 1 (v := ?_) (by simp) (by kernel_rfl) (by kernel_rfl) (by kernel_rfl) (fun _ _ _ h => h) (Or.inl ⟨by rfl, ?_⟩) hHeld ?_
  case refine_2 => (intro w hSw; (try dsimp only at hSw); (try (obtain ⟨s0, s1, s2, s3⟩ := hSw)); simp only [List.getElem_cons_zero, List.getElem_cons_succ]; go_simp <;> with_reducible rfl)
  simp only [List.getElem_cons_zero, List.getElem_cons_succ, Act.put, List.setIfInBounds_toArray, List.set_cons_zero, List.set_cons_succ]
  refine held_take 2 (v := ?_) (by simp) (by kernel_rfl) (by kernel_rfl) (by kernel_rfl) (fun _ _ _ h => h) (Or.inl ⟨by rfl, ?_⟩) hHeld ?_
  case refine_2 => (intro w hSw; (try dsimp only at hSw); (try (obtain ⟨s0, s1, s2, s3⟩ := hSw)); simp only [List.getElem_cons_zero, List.getElem_cons_succ]; go_simp <;> with_reducible rfl)
  simp only [List.getElem_cons_zero, List.getElem_cons_succ, Act.put, List.setIfInBounds_toArray, List.set_cons_zero, List.set_cons_succ]
  refine held_sole 3 (by simp) (by kernel_rfl) (fun K hK => ?_)
  simp only [List.getElem_cons_zero, List.getElem_cons_succ]
  go_simp
  refine (show Calls _ _ _ w.drew _ from HNA.out 1).mono ?_
  rintro e w1 ⟨rfl, hb1⟩
  have hb1' : Below w.heap.size w w1 := ((Below.refl _ w).drew).trans hb1
  have d0 : w1.cell? ⟨b, 0, none⟩ = some (.pointer (some ⟨g, 0, none⟩)) := (hb1'.cell (p := ⟨b, 0, none⟩) b0).trans c0
  have d1 : w1.cell? ⟨b', 0, none⟩ = some (.int .i64 i) := (hb1'.cell (p := ⟨b', 0, none⟩) b1).trans c1
  have HC := Lib.hid (drename_any (H.out.below hb1') ⟨#[115, 46, 110, 101, 119]⟩ (str (sName i)) (by show 5 ≤ _; omega) (by show (sName i).toArray.size ≤ _; rw [List.size_toArray]; have := HLN.out; omega) hes)
  change Hid (Calls _ _ _ _ fun e w' => e = .returned (.int .i64 (SAct.run (dkOf p room es) (.ren i)).1) ∧ DiskTo _ base g m es (SAct.run (dkOf p room es) (.ren i)).2 w') at HC
  rw [← HRR.out] at HC
  have HB := Lib.hid (Fr.of_below (DFoot g m es) hb1')
  clear hb1 hb1'
  refine hK.out _ _ ⟨d0, d1, trivial, trivial⟩ (fun hHeld => ?_)
  clear hK K
  try simp only [Act.put, List.setIfInBounds_toArray, List.set_cons_zero, List.set_cons_succ]
  refine held_sole 4 (by simp) (by kernel_rfl) (fun K hK => ?_)
  simp only [List.getElem_cons_zero, List.getElem_cons_succ]
  go_simp
  refine HC.out.mono ?_
  rintro e w2 ⟨rfl, hT⟩
  have HT := Lib.hid (DiskTo.step HB.out (fun k hk => .inl hk) hT)
  have hFr : Fr (DFoot g m es) w w2 := by
    obtain ⟨_, _, _, h3, _⟩ := HT.out
    exact h3
  have f0 : w2.cell? ⟨b, 0, none⟩ = some (.pointer (some ⟨g, 0, none⟩)) := (World.cell?_of_block (hFr.block b b0 hnb)).trans c0
  have f1 : w2.cell? ⟨b', 0, none⟩ = some (.int .i64 i) := (World.cell?_of_block (hFr.block b' b1 hnb')).trans c1
  clear hT
  refine hK.out _ _ ⟨f0, f1, trivial, trivial⟩ (fun hHeld => ?_)
  clear hK K
  try simp only [Act.put, List.setIfInBounds_toArray, List.set_cons_zero, List.set_cons_succ]
  refine held_take 5 (v := ?_) (by simp) (by kernel_rfl) (by kernel_rfl) (by kernel_rfl) (fun _ _ _ h => h) (Or.inl ⟨by rfl, ?_⟩) hHeld ?_
  case refine_2 => (intro w hSw; (try dsimp only at hSw); (try (obtain ⟨s0, s1, s2, s3⟩ := hSw)); simp only [List.getElem_cons_zero, List.getElem_cons_succ]; go_simp <;> with_reducible rfl)
  simp only [List.getElem_cons_zero, List.getElem_cons_succ, Act.put, List.setIfInBounds_toArray, List.set_cons_zero, List.set_cons_succ]
  refine wpAnyH_done (by kernel_rfl) ?_ _
  clear c0 c1 d0 d1 f0 f1
  go_wp2_with fail
  go_ret
  exact ⟨rfl, HT.out⟩
end
end Go.Proofs.YteehkcpokgeipaaGreatDoor
