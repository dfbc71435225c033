/- keep.Save on an unarmed disk with room, in plain words (pavanelaw23.KeepTwo). No condition. -/
import Derived.Test.YteehkcpokgeipaaGreatDoorKeepNum
import Derived.Test.YteehkcpokgeipaaGreatDoorKeepOpen
import Derived.Test.YteehkcpokgeipaaGreatDoorDiskApp
import Derived.Test.YteehkcpokgeipaaGreatDoorDiskRm
set_option linter.unusedVariables false
namespace Go.Proofs.YteehkcpokgeipaaGreatDoor
open Go.RowKit Go.Maps Go.Sort Go.Shelf Oct
def newN : Nm := [115, 46, 110, 101, 119]
inductive SAct
 | rm
 | app (p : List UInt8)
 | sync
 | ren (i : Int)
def SAct.run (d : DkD) : SAct → Int × DkD
 | .rm => d.remove newN
 | .app p => d.append newN [p]
 | .sync => d.sync newN
 | .ren i => d.rename newN (sName i)
section
variable {w : World} {base g m : Nat} {p : PWD} {room : Int} {es : List (Nm × FE)}
set_option maxHeartbeats 1000000 in
set_option maxRecDepth 100000 in
theorem act1_any (h : DiskAt w base g m p room es) (b : Nat) (c0 : w.cell? ⟨b, 0, none⟩ = some (.pointer (some ⟨g, 0, none⟩))) :
  Calls Tryz.prog 18 #[.pointer (some ⟨b, 0, none⟩)] w fun e w' => e = .returned (.int .i64 (SAct.run (dkOf p room es) .rm).1) ∧ DiskTo w base g m es (SAct.run (dkOf p room es) .rm).2 w' := by
 have HC := Lib.hid (dremove_any h ⟨#[115, 46, 110, 101, 119]⟩ (by show 5 ≤ _; omega))
 obtain ⟨R, hR⟩ : ∃ R, R = SAct.run (dkOf p room es) .rm := ⟨_, rfl⟩
 change Hid (Calls _ _ _ _ fun e w' => e = .returned (.int .i64 (SAct.run (dkOf p room es) .rm).1) ∧ DiskTo w base g m es (SAct.run (dkOf p room es) .rm).2 w') at HC
 rw [← hR] at HC ⊢
 clear hR h
 go_enter Tryz.func18, Tryz.ntmps18
 go_wp2_with fail
 refine HC.out.mono ?_
 rintro e w1 ⟨rfl, hT⟩
 have HT := Lib.hid hT
 clear hT
 go_wp2_with fail
 go_ret
 exact ⟨rfl, HT.out⟩
set_option maxHeartbeats 1000000 in
set_option maxRecDepth 100000 in
theorem act3_any (h : DiskAt w base g m p room es) (b : Nat) (c0 : w.cell? ⟨b, 0, none⟩ = some (.pointer (some ⟨g, 0, none⟩))) :
  Calls Tryz.prog 22 #[.pointer (some ⟨b, 0, none⟩)] w fun e w' => e = .returned (.int .i64 (SAct.run (dkOf p room es) .sync).1) ∧ DiskTo w base g m es (SAct.run (dkOf p room es) .sync).2 w' := by
 have HC := Lib.hid (dsync_any h ⟨#[115, 46, 110, 101, 119]⟩ (by show 5 ≤ _; omega))
 obtain ⟨R, hR⟩ : ∃ R, R = SAct.run (dkOf p room es) .sync := ⟨_, rfl⟩
 change Hid (Calls _ _ _ _ fun e w' => e = .returned (.int .i64 (SAct.run (dkOf p room es) .sync).1) ∧ DiskTo w base g m es (SAct.run (dkOf p room es) .sync).2 w') at HC
 rw [← hR] at HC ⊢
 clear hR h
 go_enter Tryz.func22, Tryz.ntmps22
 go_wp2_with fail
 refine HC.out.mono ?_
 rintro e w1 ⟨rfl, hT⟩
 have HT := Lib.hid hT
 clear hT
 go_wp2_with fail
 go_ret
 exact ⟨rfl, HT.out⟩
set_option maxHeartbeats 1000000 in
set_option maxRecDepth 100000 in
theorem act2_any (h : DiskAt w base g m p room es) (b b' : Nat) (A : Option Addr) (l : List UInt8) (c : Nat) (c0 : w.cell? ⟨b, 0, none⟩ = some (.pointer (some ⟨g, 0, none⟩))) (c1 : w.cell? ⟨b', 0, none⟩ = some (.slice A l.length c))
  (hr : Rd w w.heap.size A (cells l)) (hlc : l.length ≤ c) (hl : l.length ≤ 274877906944) (hfe : ∀ q ∈ es, q.2.f.b.length ≤ 549755813888) (hsz : sizes (sec FE.f es) ≤ 4611686018427387904) (hes : es.length < 4398046511104) :
  Calls Tryz.prog 20 #[.pointer (some ⟨b, 0, none⟩), .pointer (some ⟨b', 0, none⟩)] w fun e w' => e = .returned (.int .i64 (SAct.run (dkOf p room es) (.app l)).1) ∧ DiskTo w base g m es (SAct.run (dkOf p room es) (.app l)).2 w' := by
 have hbA := (Below.refl w.heap.size w).alloc (Nat.le_refl _) (.cells #[.slice A l.length c] 27)
 have hrd : Rd (w.alloc (.cells #[.slice A l.length c] 27)) (w.alloc (.cells #[.slice A l.length c] 27)).heap.size (some ⟨w.heap.size, 0, none⟩) ([⟨A, l, c⟩].map Row.val) := by
  have h1 := rd_lit w 27 [.slice A l.length c]
  exact (show Rd _ _ _ _ from h1).more (by simp)
 have hrp : RRd (w.alloc (.cells #[.slice A l.length c] 27)) (w.alloc (.cells #[.slice A l.length c] 27)).heap.size [⟨A, l, c⟩] := fun q hq => by
  obtain rfl := List.mem_singleton.1 hq
  exact ⟨(hr.below hbA).more hbA.size, by show l.length ≤ _; omega⟩
 have HC := Lib.hid (dappend_any (h.below hbA) ⟨#[115, 46, 110, 101, 119]⟩ (by show 5 ≤ _; omega) (some ⟨w.heap.size, 0, none⟩) [⟨A, l, c⟩] 1 hrd hrp (by simp) (by simp) (by simp [flat]; omega) hfe hsz hes)
 obtain ⟨R, hR⟩ : ∃ R, R = SAct.run (dkOf p room es) (.app l) := ⟨_, rfl⟩
 change Hid (Calls _ _ _ _ fun e w' => e = .returned (.int .i64 (SAct.run (dkOf p room es) (.app l)).1) ∧ DiskTo _ base g m es (SAct.run (dkOf p room es) (.app l)).2 w') at HC
 rw [← hR] at HC ⊢
 have HB := Lib.hid (Fr.of_below (DFoot g m es) hbA)
 clear hR h hrd hrp hr hbA
 go_enter Tryz.func20, Tryz.ntmps20
 go_wp2_with fail
 refine HC.out.mono ?_
 rintro e w1 ⟨rfl, hT⟩
 have HT := Lib.hid (DiskTo.step HB.out (fun k hk => .inl hk) hT)
 clear hT
 go_wp2_with fail
 go_ret
 exact ⟨rfl, HT.out⟩
set_option maxHeartbeats 1000000 in
set_option maxRecDepth 100000 in
theorem act4_any (h : DiskAt w base g m p room es) (b b' : Nat) (i : Int) (hi : -9223372036854775808 ≤ i ∧ i ≤ 9223372036854775807) (c0 : w.cell? ⟨b, 0, none⟩ = some (.pointer (some ⟨g, 0, none⟩))) (c1 : w.cell? ⟨b', 0, none⟩ = some (.int .i64 i)) (ht : Tab w)
  (hes : es.length < 4398046511104) (hnb : ¬ DFoot g m es b) (hnb' : ¬ DFoot g m es b') :
  Calls Tryz.prog 24 #[.pointer (some ⟨b, 0, none⟩), .pointer (some ⟨b', 0, none⟩)] w fun e w' => e = .returned (.int .i64 (SAct.run (dkOf p room es) (.ren i)).1) ∧ DiskTo w base g m es (SAct.run (dkOf p room es) (.ren i)).2 w' := by
 have HNA := Lib.hid (fun k => kname_any i hi (w.drewN k) (ht.below (below_drewN (Below.refl _ w) k)))
 have HLN := Lib.hid (sName_len i hi)
 have H := Lib.hid h
 obtain ⟨R, hR⟩ : ∃ R, R = SAct.run (dkOf p room es) (.ren i) := ⟨_, rfl⟩
 rw [← hR]
 have HRR := Lib.hid hR
 clear hR h ht
 have b0 := World.block_lt_of_cell? w ⟨b, 0, none⟩ c0
 have b1 := World.block_lt_of_cell? w ⟨b', 0, none⟩ c1
 go_enter Tryz.func24, Tryz.ntmps24
 go_wp2_with fail
 refine wp_region_held_drew (S := fun W => W.cell? ⟨b, 0, none⟩ = some (.pointer (some ⟨g, 0, none⟩)) ∧ W.cell? ⟨b', 0, none⟩ = some (.int .i64 i) ∧ True ∧ True) (by kernel_rfl) ⟨c0, c1, trivial, trivial⟩ (fun hHeld => ?_)
 refine held_take 0 (v := ?_) (by simp) (by kernel_rfl) (by kernel_rfl) (by kernel_rfl) (fun _ _ _ h => h) (Or.inl ⟨by rfl, ?_⟩) hHeld ?_
 case refine_2 => (intro w hSw; (try dsimp only at hSw); (try (obtain ⟨s0, s1, s2, s3⟩ := hSw)); simp only [List.getElem_cons_zero]; go_simp <;> with_reducible rfl)
 simp only [List.getElem_cons_zero, Act.put, List.setIfInBounds_toArray, List.set_cons_zero, List.set_cons_succ]
 refine held_take 1 (v := ?_) (by simp) (by kernel_rfl) (by kernel_rfl) (by kernel_rfl) (fun _ _ _ h => h) (Or.inl ⟨by rfl, ?_⟩) hHeld ?_
 case refine_2 => (intro w hSw; (try dsimp only at hSw); (try (obtain ⟨s0, s1, s2, s3⟩ := hSw)); simp only [List.getElem_cons_zero, List.getElem_cons_succ]; go_simp <;> with_reducible rfl)
 simp only [List.getElem_cons_zero, List.getElem_cons_succ, Act.put, List.setIfInBounds_toArray, List.set_cons_zero, List.set_cons_succ]
 refine held_take 2 (v := ?_) (by simp) (by kernel_rfl) (by kernel_rfl) (by kernel_rfl) (fun _ _ _ h => h) (Or.inl ⟨by rfl, ?_⟩) hHeld ?_
 case refine_2 => (intro w hSw; (try dsimp only at hSw); (try (obtain ⟨s0, s1, s2, s3⟩ := hSw)); simp only [List.getElem_cons_zero, List.getElem_cons_succ]; go_simp <;> with_reducible rfl)
 simp only [List.getElem_cons_zero, List.getElem_cons_succ, Act.put, List.setIfInBounds_toArray, List.set_cons_zero, List.set_cons_succ]
 refine held_sole 3 (by simp) (by kernel_rfl) (fun K hK => ?_)
 simp only [List.getElem_cons_zero, List.getElem_cons_succ]
 go_simp
 refine (show Calls _ _ _ w.drew _ from HNA.out 1).mono ?_
 rintro e w1 ⟨rfl, hb1⟩
 have hb1' : Below w.heap.size w w1 := ((Below.refl _ w).drew).trans hb1
 have d0 : w1.cell? ⟨b, 0, none⟩ = some (.pointer (some ⟨g, 0, none⟩)) := (hb1'.cell (p := ⟨b, 0, none⟩) b0).trans c0
 have d1 : w1.cell? ⟨b', 0, none⟩ = some (.int .i64 i) := (hb1'.cell (p := ⟨b', 0, none⟩) b1).trans c1
 have HC := Lib.hid (drename_any (H.out.below hb1') ⟨#[115, 46, 110, 101, 119]⟩ (str (sName i)) (by show 5 ≤ _; omega) (by show (sName i).toArray.size ≤ _; rw [List.size_toArray]; have := HLN.out; omega) hes)
 change Hid (Calls _ _ _ _ fun e w' => e = .returned (.int .i64 (SAct.run (dkOf p room es) (.ren i)).1) ∧ DiskTo _ base g m es (SAct.run (dkOf p room es) (.ren i)).2 w') at HC
 rw [← HRR.out] at HC
 have HB := Lib.hid (Fr.of_below (DFoot g m es) hb1')
 clear hb1 hb1'
 refine hK.out _ _ ⟨d0, d1, trivial, trivial⟩ (fun hHeld => ?_)
 clear hK K
 try simp only [Act.put, List.setIfInBounds_toArray, List.set_cons_zero, List.set_cons_succ]
 refine held_sole 4 (by simp) (by kernel_rfl) (fun K hK => ?_)
 simp only [List.getElem_cons_zero, List.getElem_cons_succ]
 go_simp
 refine HC.out.mono ?_
 rintro e w2 ⟨rfl, hT⟩
 have HT := Lib.hid (DiskTo.step HB.out (fun k hk => .inl hk) hT)
 have hFr : Fr (DFoot g m es) w w2 := by
  obtain ⟨_, _, _, h3, _⟩ := HT.out
  exact h3
 have f0 : w2.cell? ⟨b, 0, none⟩ = some (.pointer (some ⟨g, 0, none⟩)) := (World.cell?_of_block (hFr.block b b0 hnb)).trans c0
 have f1 : w2.cell? ⟨b', 0, none⟩ = some (.int .i64 i) := (World.cell?_of_block (hFr.block b' b1 hnb')).trans c1
 clear hT
 refine hK.out _ _ ⟨f0, f1, trivial, trivial⟩ (fun hHeld => ?_)
 clear hK K
 try simp only [Act.put, List.setIfInBounds_toArray, List.set_cons_zero, List.set_cons_succ]
 refine held_take 5 (v := ?_) (by simp) (by kernel_rfl) (by kernel_rfl) (by kernel_rfl) (fun _ _ _ h => h) (Or.inl ⟨by rfl, ?_⟩) hHeld ?_
 case refine_2 => (intro w hSw; (try dsimp only at hSw); (try (obtain ⟨s0, s1, s2, s3⟩ := hSw)); simp only [List.getElem_cons_zero, List.getElem_cons_succ]; go_simp <;> with_reducible rfl)
 simp only [List.getElem_cons_zero, List.getElem_cons_succ, Act.put, List.setIfInBounds_toArray, List.set_cons_zero, List.set_cons_succ]
 refine wpAnyH_done (by kernel_rfl) ?_ _
 clear c0 c1 d0 d1 f0 f1
 go_wp2_with fail
 go_ret
 exact ⟨rfl, HT.out⟩
end
end Go.Proofs.YteehkcpokgeipaaGreatDoor
set_option linter.unusedVariables false
namespace Go.Proofs.YteehkcpokgeipaaGreatDoor
def runS : List SAct → DkD → Int × DkD
 | [], d => (0, d)
 | a :: r, d => if (a.run d).1 = 0 then runS r (a.run d).2 else a.run d
def rmS : List Int → DkD → Int × DkD
 | [], d => (0, d)
 | n :: r, d => if (d.remove (sName n)).1 = 0 then rmS r (d.remove (sName n)).2 else d.remove (sName n)
def sumL (ls : List (List UInt8)) : Int := ls.foldl (fun s p => s + p.length) 0
def actsL (d : DkD) (i : Int) (rows : List (List UInt8)) : List SAct := (if (d.read newN).2 = 0 then [.rm] else []) ++ rows.map .app ++ [.sync, .ren i]
def tailS (d : DkD) : Int × DkD := rmS ((idxL (d.fs.map (·.1))).take ((idxL (d.fs.map (·.1))).length - 2)) d
def saveD (d : DkD) (i E : Int) (rows : List (List UInt8)) : Int × DkD :=
 if d.pw.off = true then (50, d) else if E ≠ 0 then (E, d) else if d.free + (d.read newN).1.length < sumL rows then (52, d) else
 if (runS (actsL d i rows) d).1 = 0 then tailS (runS (actsL d i rows) d).2 else runS (actsL d i rows) d
structure DOk (N : Nat) (d : DkD) : Prop where
 sz : sizes d.fs ≤ 1048616 * (N : Int)
 len : d.fs.length ≤ N
 nm : ∀ q ∈ d.fs, q.1 ≠ [] ∧ q.1.length ≤ 1000
theorem sizes_mem {q : Nm × FD} : ∀ {l : List (Nm × FD)}, q ∈ l → (q.2.b.length : Int) ≤ sizes l
 | x :: r, h => by
  have hn := sizes_nonneg r
  unfold sizes
  rcases List.mem_cons.1 h with rfl | h
  ·omega
  ·have := sizes_mem h
   omega
theorem sizes_filter (f : Nm × FD → Bool) : ∀ l : List (Nm × FD), sizes (l.filter f) ≤ sizes l
 | [] => Int.le_refl _
 | x :: r => by
  have := sizes_filter f r
  by_cases h : f x = true
  ·rw [List.filter_cons_of_pos h]
   simp only [sizes]
   omega
  ·rw [List.filter_cons_of_neg h]
   simp only [sizes]
   omega
theorem sizes_del (n : Nm) (l : List (Nm × FD)) : sizes (asDel n l) ≤ sizes l := sizes_filter _ l
theorem len_del {α : Type} (n : Nm) (l : List (Nm × α)) : (asDel n l).length ≤ l.length := List.length_filter_le _ _
theorem sizes_ins (x : Nm × FD) : ∀ l : List (Nm × FD), sizes (asIns x l) = x.2.b.length + sizes l
 | [] => by simp [asIns, sizes]
 | y :: r => by
  have := sizes_ins x r
  unfold asIns
  split
  ·simp [sizes]
  ·simp only [sizes]
   omega
theorem len_ins {α : Type} (x : Nm × α) : ∀ l : List (Nm × α), (asIns x l).length = l.length + 1
 | [] => by simp [asIns]
 | y :: r => by
  have := len_ins x r
  unfold asIns
  split
  ·simp
  ·simp [this]
theorem sizes_put (n : Nm) (f : FD) (l : List (Nm × FD)) : sizes (asPut n f l) = f.b.length + sizes (asDel n l) := sizes_ins _ _
theorem len_put {α : Type} (n : Nm) (f : α) (l : List (Nm × α)) : (asPut n f l).length ≤ l.length + 1 := by
 unfold asPut
 rw [len_ins]
 have := len_del n l
 omega
theorem sizes_get {n : Nm} {f : FD} : ∀ {l : List (Nm × FD)}, asGet n l = some f → (f.b.length : Int) + sizes (asDel n l) ≤ sizes l
 | [], h => by cases h
 | x :: r, h => by
  unfold asGet at h
  by_cases hx : (x.1 == n) = true
  ·rw [List.find?_cons_of_pos (p := fun p : Nm × FD => p.1 == n) hx] at h
   simp at h
   subst h
   have h1 := sizes_del n r
   unfold asDel at h1 ⊢
   rw [List.filter_cons_of_neg (by simp [hx])]
   simp only [sizes]
   omega
  ·rw [List.find?_cons_of_neg (p := fun p : Nm × FD => p.1 == n) hx] at h
   have := sizes_get (l := r) h
   unfold asDel at this ⊢
   rw [List.filter_cons_of_pos (by simpa using hx)]
   simp only [sizes]
   omega
theorem get_mem {α : Type} {n : Nm} {f : α} {l : List (Nm × α)} (h : asGet n l = some f) : (n, f) ∈ l := by
 unfold asGet at h
 cases e : l.find? (fun p => p.1 == n) with
 | none => rw [e] at h; cases h
 | some q =>
  rw [e] at h
  have h1 := List.mem_of_find?_eq_some e
  have h2 := List.find?_some e
  simp at h h2
  obtain ⟨a, b⟩ := q
  simp at h h2
  subst h; subst h2
  exact h1
section
variable {N : Nat} {d : DkD}
theorem DOk.mono {N' : Nat} (h : DOk N d) (hN : N ≤ N') : DOk N' d := ⟨by have := h.sz; omega, Nat.le_trans h.len hN, h.nm⟩
theorem DOk.pw (h : DOk N d) (p : PWD) : DOk N { d with pw := p } := ⟨h.sz, h.len, h.nm⟩
theorem DOk.del (h : DOk N d) (n : Nm) : DOk N { d with fs := asDel n d.fs } :=
 ⟨Int.le_trans (sizes_del n _) h.sz, Nat.le_trans (len_del n _) h.len, fun q hq => h.nm q (asDel_mem.1 hq).1⟩
theorem DOk.put (h : DOk N d) (n : Nm) (f : FD) (hn : n ≠ [] ∧ n.length ≤ 1000) (hf : (f.b.length : Int) + sizes (asDel n d.fs) ≤ 1048616 * (N : Int) + 1048616) : DOk (N + 1) { d with fs := asPut n f d.fs } :=
 ⟨by rw [sizes_put]; push_cast; omega, by have := h.len; have := len_put n f d.fs; show (asPut n f d.fs).length ≤ _; omega, fun q hq => by
  rcases asPut_mem.1 hq with rfl | hq
  ·exact hn
  ·exact h.nm q hq.1⟩
theorem DOk.whole {M : Nat} (h : DOk N d) {fs : List (Nm × FD)} (hf : DOk M { d with fs := fs }) (hM : N ≤ M) : DOk M (d.whole fs).2 := by
 have h1 := (h.mono hM).pw d.pw.cut.2.2
 have h2 := hf.pw d.pw.cut.2.2
 unfold DkD.whole
 by_cases hc : d.pw.cut.1 = false ∨ d.pw.cut.2.1 % 2 ≠ 0
 ·simp only [if_pos hc]
  exact h2
 ·simp only [if_neg hc]
  exact h1
theorem DOk.remove (h : DOk N d) (n : Nm) : DOk N (d.remove n).2 := by
 unfold DkD.remove
 split
 ·exact h
 ·split
  ·exact h
  ·exact h.whole (h.del n) (Nat.le_refl _)
theorem newN_ok : newN ≠ [] ∧ newN.length ≤ 1000 := by decide
theorem get_old (n : Nm) (l : List (Nm × FD)) : ((((asGet n l).getD ⟨[], 0⟩).b.length : Nat) : Int) + sizes (asDel n l) ≤ sizes l := by
 cases e : asGet n l with
 | none =>
  have := sizes_del n l
  simp
  omega
 | some f => simpa using sizes_get e
theorem SAct.ok (a : SAct) (ha : ∀ i, a = .ren i → -9223372036854775808 ≤ i ∧ i ≤ 9223372036854775807) (hb : ∀ p, a = .app p → p.length ≤ 1048616) (h : DOk N d) : DOk (N + 1) (a.run d).2 := by
 cases a with
 | rm => exact (h.remove newN).mono (by omega)
 | app p =>
  show DOk (N + 1) (d.append newN [p]).2
  unfold DkD.append
  split
  ·exact h.mono (by omega)
  ·split
   ·exact h.mono (by omega)
   ·split
    ·exact h.mono (by omega)
    ·rename_i hfit
     have hp := hb p rfl
     have hsz := h.sz
     have hold := get_old newN d.fs
     have hup := upTo_len d.pw.cut.2.1 [p].flatten
     have hfl : [p].flatten = p := by simp
     rw [hfl] at hup
     refine (h.put newN _ newN_ok ?_).pw _
     simp only [List.length_append, hfl]
     split <;> push_cast <;> omega
 | sync =>
  show DOk (N + 1) (d.sync newN).2
  unfold DkD.sync
  split
  ·exact h.mono (by omega)
  ·split
   ·exact h.mono (by omega)
   ·rename_i f hf
    split
    ·exact (h.mono (by omega)).pw _
    ·refine (h.put newN _ newN_ok ?_).pw _
     have := sizes_get hf
     have := h.sz
     simp only
     omega
 | ren i =>
  have hl := sName_len i (ha i rfl)
  show DOk (N + 1) (d.rename newN (sName i)).2
  unfold DkD.rename
  split
  ·exact h.mono (by omega)
  ·split
   ·exact h.mono (by omega)
   ·rename_i f hf
    split
    ·exact h.mono (by omega)
    ·refine h.whole ((h.del newN).put (sName i) f ⟨by simp [sName], by omega⟩ ?_) (by omega)
     have h1 := sizes_get hf
     have h2 := sizes_del (sName i) (asDel newN d.fs)
     have := h.sz
     simp only
     omega
end
end Go.Proofs.YteehkcpokgeipaaGreatDoor
set_option linter.unusedVariables false
namespace Go.Proofs.YteehkcpokgeipaaGreatDoor
open Go.RowKit Oct
theorem info_fn : (Tryz.prog.info? 60).map (fun i => (i.zero, i.size, i.bytes)) = some (some .nilFunc, 1, 8) := by kernel_rfl
theorem Rd.off {w w' : World} {B : Nat} {A : Option Addr} {xs : List Value} (h : Rd w B A xs) (hk : ∀ ad, A = some ad → ad.block < B → w'.heap[ad.block]? = w.heap[ad.block]?) : Rd w' B A xs := fun hn => by
 obtain ⟨ad, e, hb, hc⟩ := h hn
 exact ⟨ad, e, hb, fun j u hu => (World.cell?_of_block (w := w) (by rw [block_of_add]; exact hk ad e hb)).trans (hc j u hu)⟩
theorem Got.lo {w : World} {base : Nat} {A : Option Addr} {n c : Nat} {l : List UInt8} (h : Got w base (.slice A n c) l) : ∀ ad, A = some ad → base ≤ ad.block := fun ad e => h.row.base ad.block (by subst e; rfl)
def ActV (w3 W : World) (lo b2 b3 : Nat) (v : Value) : SAct → Prop
 | .rm => v = .func (.func 18) #[] #[.pointer (some ⟨b2, 0, none⟩)]
 | .sync => v = .func (.func 22) #[] #[.pointer (some ⟨b2, 0, none⟩)]
 | .ren i => v = .func (.func 24) #[] #[.pointer (some ⟨b2, 0, none⟩), .pointer (some ⟨b3, 0, none⟩)]
 | .app l => ∃ b A c, v = .func (.func 20) #[] #[.pointer (some ⟨b2, 0, none⟩), .pointer (some ⟨b, 0, none⟩)] ∧ w3.heap.size ≤ b ∧ Blk W b 27 #[.slice A l.length c] ∧ l.length ≤ c ∧ l.length ≤ 1048616 ∧ Rd w3 w3.heap.size A (cells l) ∧ ∀ ad, A = some ad → lo ≤ ad.block
def ActsV (w3 W : World) (lo b2 b3 : Nat) (vs : List Value) (al : List SAct) : Prop := vs.length = al.length ∧ ∀ k (h : k < vs.length) (h' : k < al.length), ActV w3 W lo b2 b3 vs[k] al[k]
theorem ActV.keep {w3 W W' : World} {lo b2 b3 : Nat} {v : Value} {a : SAct} (h : ActV w3 W lo b2 b3 v a) (hk : ∀ b cs, w3.heap.size ≤ b → Blk W b 27 cs → W'.heap[b]? = W.heap[b]?) : ActV w3 W' lo b2 b3 v a := by
 cases a with
 | rm => exact h
 | sync => exact h
 | ren i => exact h
 | app l =>
  obtain ⟨b, A, c, h1, h2, h3, h4⟩ := h
  exact ⟨b, A, c, h1, h2, (hk b _ h2 h3).trans h3, h4⟩
theorem ActsV.keep {w3 W W' : World} {lo b2 b3 : Nat} {vs : List Value} {al : List SAct} (h : ActsV w3 W lo b2 b3 vs al) (hk : ∀ b cs, w3.heap.size ≤ b → Blk W b 27 cs → W'.heap[b]? = W.heap[b]?) : ActsV w3 W' lo b2 b3 vs al :=
 ⟨h.1, fun k h1 h2 => (h.2 k h1 h2).keep hk⟩
theorem ActsV.push {w3 W : World} {lo b2 b3 : Nat} {vs us : List Value} {al bs : List SAct} (h : ActsV w3 W lo b2 b3 vs al) (k : ActsV w3 W lo b2 b3 us bs) : ActsV w3 W lo b2 b3 (vs ++ us) (al ++ bs) := by
 refine ⟨by rw [List.length_append, List.length_append, h.1, k.1], fun j h1 h2 => ?_⟩
 by_cases hj : j < vs.length
 ·rw [List.getElem_append_left hj, List.getElem_append_left (by rw [← h.1]; exact hj)]
  exact h.2 j _ _
 ·rw [List.getElem_append_right (by omega), List.getElem_append_right (by rw [← h.1]; omega)]
  have := k.2 (j - vs.length) (by rw [List.length_append] at h1; omega) (by rw [List.length_append] at h2; have := h.1; omega)
  simpa only [h.1] using this
theorem ActsV.one {w3 W : World} {lo b2 b3 : Nat} {v : Value} {a : SAct} (h : ActV w3 W lo b2 b3 v a) : ActsV w3 W lo b2 b3 [v] [a] := ⟨rfl, fun k h1 h2 => by
 obtain rfl : k = 0 := by simp at h1; exact h1
 exact h⟩
theorem ActsV.nil {w3 W : World} {lo b2 b3 : Nat} : ActsV w3 W lo b2 b3 [] [] := ⟨rfl, fun k h1 => by simp at h1⟩
theorem ActsV.grown {w3 W W' : World} {lo b2 b3 base : Nat} {v : Value} {xs vs : List Value} {al : List SAct} (h : ActsV w3 W lo b2 b3 vs al) (hown : Own W base 60 v xs) (hg : W.grownBy W' v.ownBlock) : ActsV w3 W' lo b2 b3 vs al :=
 h.keep fun b cs _ hb => hg.block b hb.lt fun e => by
  obtain ⟨cs', hc⟩ := ownsRow_held hown e.symm
  have hb' : W.heap[b]? = some (Obj.cells cs 27 (0, 0)) := hb
  rw [hb'] at hc
  injection hc with hc
  injection hc with _ hc _
  exact absurd hc (by decide)
theorem ActsV.below {w3 W W' : World} {lo b2 b3 : Nat} {vs : List Value} {al : List SAct} (h : ActsV w3 W lo b2 b3 vs al) (hb : Below W.heap.size W W') : ActsV w3 W' lo b2 b3 vs al := h.keep fun b cs _ hk => hb.block b hk.lt
end Go.Proofs.YteehkcpokgeipaaGreatDoor
set_option linter.unusedVariables false
namespace Go.Proofs.YteehkcpokgeipaaGreatDoor
open Go.RowKit Go.Shelf Oct
theorem act_calls {w3 W : World} {lo b2 b3 base g m : Nat} {pw : PWD} {room : Int} {es : List (Nm × FE)} {a : SAct} {v : Value} {i : Int} (hD : DiskAt W base g m pw room es) (ha : ActV w3 W lo b2 b3 v a)
  (c2 : W.cell? ⟨b2, 0, none⟩ = some (.pointer (some ⟨g, 0, none⟩))) (c3 : W.cell? ⟨b3, 0, none⟩ = some (.int .i64 i)) (hren : ∀ j, a = .ren j → j = i) (hi : -9223372036854775808 ≤ i ∧ i ≤ 9223372036854775807) (ht : Tab W)
  (hrd : ∀ (A : Option Addr) (l : List UInt8), Rd w3 w3.heap.size A (cells l) → (∀ ad, A = some ad → lo ≤ ad.block) → Rd W W.heap.size A (cells l)) {M : Nat} (hok : DOk M (dkOf pw room es)) (hM : M ≤ 500000) (hnb : ¬ DFoot g m es b2) (hnb' : ¬ DFoot g m es b3) :
  ∃ F caps, v = .func (.func F) #[] caps ∧ Enters Tryz.prog F ∧ Calls Tryz.prog F caps W fun e w' => e = .returned (.int .i64 (a.run (dkOf pw room es)).1) ∧ DiskTo W base g m es (a.run (dkOf pw room es)).2 w' := by
 have hes : es.length < 4398046511104 := by
  have := hok.len
  have e : (dkOf pw room es).fs.length = es.length := by show (sec FE.f es).length = _; simp
  omega
 have hsz : sizes (sec FE.f es) ≤ 549755813888 := by have := hok.sz; simp only at this; omega
 cases a with
 | rm => exact ⟨_, _, ha, enters_of Tryz.func18 (by kernel_rfl) rfl, act1_any hD b2 c2⟩
 | sync => exact ⟨_, _, ha, enters_of Tryz.func22 (by kernel_rfl) rfl, act3_any hD b2 c2⟩
 | ren j =>
  obtain rfl := hren j rfl
  exact ⟨_, _, ha, enters_of Tryz.func24 (by kernel_rfl) rfl, act4_any hD b2 b3 j hi c2 c3 ht hes hnb hnb'⟩
 | app l =>
  obtain ⟨b, A, c, hv, hlo, hb, hlc, hl, hr, hA⟩ := ha
  exact ⟨_, _, hv, enters_of Tryz.func20 (by kernel_rfl) rfl, act2_any hD b2 b A l c c2 (hb.cell 0) (hrd A l hr hA) hlc (by omega) (fun q hq => by
   have h1 := sizes_mem (q := (q.1, q.2.f)) (l := sec FE.f es) (List.mem_map.2 ⟨q, hq, rfl⟩)
   simp only at h1
   omega) (by omega) hes⟩
end Go.Proofs.YteehkcpokgeipaaGreatDoor
set_option linter.unusedVariables false
namespace Go.Proofs.YteehkcpokgeipaaGreatDoor
open Go.RowKit Go.Maps Go.Sort Go.Shelf Oct
theorem closeS_len (q : List UInt8) : (closeS q).length ≤ 1048616 := by
 unfold closeS
 split
 ·simp
 ·rename_i h
  have := enc_len q.length (by omega)
  unfold piece head
  simp [Crc.four]
  omega
theorem fileL_row {l r : List UInt8} (h : r ∈ fileL l) : r.length ≤ 1048616 := by
 unfold fileL at h
 rcases List.mem_append.1 h with h | h
 ·obtain ⟨q, _, rfl⟩ := List.mem_map.1 h
  exact closeS_len q
 ·rw [List.mem_singleton.1 h]
  exact closeS_len _
theorem fileL_len (l : List UInt8) : (fileL l).length = (l.length + 399) / 400 + 1 := by
 unfold fileL
 rw [List.length_append, List.length_map, chunksL_length]
 rfl
theorem sumL_take {ls : List (List UInt8)} {k : Nat} (hk : k < ls.length) : sumL (ls.take (k + 1)) = sumL (ls.take k) + ls[k].length := by
 unfold sumL
 rw [List.take_add_one, List.getElem?_eq_getElem hk, List.foldl_append]
 rfl
theorem sumL_le {ls : List (List UInt8)} (h : ∀ r ∈ ls, r.length ≤ 1048616) : ∀ k : Nat, 0 ≤ sumL (ls.take k) ∧ sumL (ls.take k) ≤ 1048616 * (k : Int)
 | 0 => by simp [sumL]
 | k + 1 => by
  have ih := sumL_le h k
  by_cases hk : k < ls.length
  ·rw [sumL_take hk]
   have := h _ (List.getElem_mem hk)
   omega
  ·rw [List.take_of_length_le (by omega)]
   rw [List.take_of_length_le (by omega)] at ih
   omega
theorem idxL_mem {ns : List Nm} {n : Int} (h : n ∈ idxL ns) : 0 ≤ n ∧ n ≤ 1099511627776 := by
 unfold idxL at h
 rw [List.mem_mergeSort] at h
 obtain ⟨q, _, hq⟩ := List.mem_filterMap.1 h
 cases q with
 | nil => cases hq
 | cons c r =>
  simp only [idxOf] at hq
  split at hq
  ·rename_i hc
   injection hq with hq
   have := hc.2.2.2
   rw [hq] at this
   unfold outB at this
   simp at this
   omega
  ·cases hq
theorem idxL_len (ns : List Nm) : (idxL ns).length ≤ ns.length := by
 unfold idxL idxU
 rw [List.length_mergeSort]
 exact List.length_filterMap_le _ _
set_option maxHeartbeats 8000000 in
set_option maxRecDepth 100000 in
theorem save_any {w : World} {base g m : Nat} {p : PWD} {room : Int} {es : List (Nm × FE)} (h : DiskAt w base g m p room es) {N : Nat} (hok : DOk N (dkOf p room es)) (hN : N ≤ 400000)
  (i t : Int) (Av Ad : Option Addr) (z : List Int) (l : List UInt8) (nv cv nd cd : Nat) (hv : nv = z.length) (hd : nd = l.length) (hr : Rd w w.heap.size Av (z.map (Value.int .i64))) (hr2 : Rd w w.heap.size Ad (cells l))
  (hz : ∀ n ∈ z, -9223372036854775808 ≤ n ∧ n ≤ 9223372036854775807) (hl : z.length ≤ 140737488351232) (hl2 : l.length ≤ 4611686018427387904) (hi : -9223372036854775808 ≤ i ∧ i ≤ 9223372036854775807) (hL : (snapS i t z l).length ≤ 1100000)
  (hbase : base ≤ w.heap.size) (hF : ∀ w', Below base w w' → Facts w') :
  Calls Tryz.prog 7 #[.pointer (some ⟨g, 0, none⟩), snapV i t Av nv cv Ad nd cd] w fun e w' => e = .returned (.int .i64 (saveD (dkOf p room es) i (snapE i t z l) (fileL (snapS i t z l))).1) ∧ DiskTo w base g m es (saveD (dkOf p room es) i (snapE i t z l) (fileL (snapS i t z l))).2 w' := by
 subst hv; subst hd
 unfold snapV
 have H := Lib.hid h
 have HF := Lib.hid hF
 have HOK := Lib.hid hok
 obtain ⟨R, hR⟩ : ∃ R, R = saveD (dkOf p room es) i (snapE i t z l) (fileL (snapS i t z l)) := ⟨_, rfl⟩
 rw [← hR]
 have HR := Lib.hid hR
 clear hR
 have hKA := (Blk.new w 24 #[.pointer (some ⟨g, 0, none⟩)]).alloc (.cells #[.int .i64 i, .int .i64 t, .slice Av z.length cv, .slice Ad l.length cd] 29)
 have hKB := Blk.new (w.alloc (.cells #[.pointer (some ⟨g, 0, none⟩)] 24)) 29 #[.int .i64 i, .int .i64 t, .slice Av z.length cv, .slice Ad l.length cd]
 rw [show (w.alloc (.cells #[.pointer (some ⟨g, 0, none⟩)] 24)).heap.size = w.heap.size + 1 by simp] at hKB
 have hbA := ((Below.refl w.heap.size w).alloc (Nat.le_refl _) (.cells #[.pointer (some ⟨g, 0, none⟩)] 24)).alloc (by simp) (.cells #[.int .i64 i, .int .i64 t, .slice Av z.length cv, .slice Ad l.length cd] 29)
 have hsA : ((w.alloc (.cells #[.pointer (some ⟨g, 0, none⟩)] 24)).alloc (.cells #[.int .i64 i, .int .i64 t, .slice Av z.length cv, .slice Ad l.length cd] 29)).heap.size = w.heap.size + 2 := by simp
 go_enter Tryz.func7, Tryz.ntmps7
 go_upto_region 1 with fail
 generalize (w.alloc (.cells #[.pointer (some ⟨g, 0, none⟩)] 24)).alloc (.cells #[.int .i64 i, .int .i64 t, .slice Av z.length cv, .slice Ad l.length cd] 29) = WA at hKA hKB hbA hsA ⊢
 have a2 : WA.cell? ⟨w.heap.size, 0, none⟩ = some (.pointer (some ⟨g, 0, none⟩)) := hKA.cell 0
 have a30 : WA.cell? ⟨w.heap.size + 1, 0, none⟩ = some (.int .i64 i) := hKB.cell 0
 have a31 : WA.cell? ⟨w.heap.size + 1, 1, none⟩ = some (.int .i64 t) := hKB.cell 1
 have a32 : WA.cell? ⟨w.heap.size + 1, 2, none⟩ = some (.slice Av z.length cv) := hKB.cell 2
 have a33 : WA.cell? ⟨w.heap.size + 1, 3, none⟩ = some (.slice Ad l.length cd) := hKB.cell 3
 have HKA := Lib.hid hKA
 have HKB := Lib.hid hKB
 have HBA := Lib.hid hbA
 clear hKA hKB hbA
 have HBY := Lib.hid (bytes_any i t Av Ad z l _ cv _ cd rfl rfl WA ((hr.below HBA.out).more HBA.out.size) ((hr2.below HBA.out).more HBA.out.size) hz hl hl2)
 unfold snapV at HBY
 clear hr hr2
 go_wp2_with fail
 refine HBY.out.mono ?_
 rintro e w1 ⟨v1, rfl, hv1, hb1⟩
 obtain ⟨A1, c1, rfl, hc1, hc2, hr1⟩ := hv1.shape
 have HB1 := Lib.hid (HBA.out.trans (hb1.mono HBA.out.size))
 have HK1 := Lib.hid (And.intro (HKA.out.below hb1 (by omega)) (HKB.out.below hb1 (by omega)))
 have HR1 := Lib.hid hr1
 have hs1 := HB1.out.size
 have b2 : w1.cell? ⟨w.heap.size, 0, none⟩ = some (.pointer (some ⟨g, 0, none⟩)) := HK1.out.1.cell 0
 have hSZ1 : w.heap.size + 2 ≤ w1.heap.size := by have := hb1.size; omega
 clear a2 a30 a31 a32 a33 HBY hv1 hr1 hb1 HBA HKA HKB
 have HUP := Lib.hid (dup_any (H.out.below HB1.out))
 obtain ⟨E, hE⟩ : ∃ E, E = snapE i t z l := ⟨_, rfl⟩
 obtain ⟨L, hLL⟩ : ∃ L, L = snapS i t z l := ⟨_, rfl⟩
 rw [← hE] at HR
 rw [← hLL] at HR hL hc1 HR1
 rw [← hE, ← hLL]
 clear hE hLL
 go_wp2_with fail
 refine HUP.out.mono ?_
 rintro e w2 ⟨rfl, rfl⟩
 by_cases ho : p.off = true
 ·have HE : Hid (R = (50, dkOf p room es)) := Lib.hid (by rw [HR.out]; unfold saveD; rw [if_pos ho])
  go_wp2_with fail
  go_ret
  rw [HE.out]
  exact ⟨rfl, DiskTo.mk' (H.out.below HB1.out) (Fr.of_below _ HB1.out)⟩
 by_cases he : E = 0
 ·have ho' : p.off = false := by simpa using ho
  subst he
  have HFI := Lib.hid (file_any A1 L c1 w1 HR1.out hc1 (by omega))
  have HRW := Lib.hid (fun r (h : r ∈ fileL L) => fileL_row h)
  have hrl : (fileL L).length ≤ 3000 := by rw [fileL_len]; omega
  obtain ⟨RL, hRL⟩ : ∃ RL, RL = fileL L := ⟨_, rfl⟩
  rw [← hRL] at HFI HR HRW hrl
  clear hRL
  go_wp2_with fail
  refine HFI.out.mono ?_
  rintro e w2 ⟨v2, xs, rfl, hg2, hb2⟩
  obtain ⟨A2, c2, rfl, hc21, hc22, hr2⟩ := hg2.own.shape
  have HXL := Lib.hid hg2.len
  have hx3 : xs.length ≤ 3000 := by have := HXL.out; omega
  have HG2 := Lib.hid (hg2.mono hs1)
  have HR2 := Lib.hid hr2
  have HB2 := Lib.hid (HB1.out.trans (hb2.mono hs1))
  have HK2 := Lib.hid (And.intro (HK1.out.1.below hb2 (by omega)) (HK1.out.2.below hb2 (by omega)))
  have hSZ2 : w.heap.size + 2 ≤ w2.heap.size := by have := hb2.size; omega
  have hs2 := HB2.out.size
  clear hg2 hr2 hb2 HFI HUP HR1 HK1 b2
  go_wp2_with fail
  go_loopw [42, 8, 10] (fun n s _ wr => ∃ k : Nat, k ≤ xs.length ∧ n = .int .i64 k ∧ s = .int .i64 (sumL (RL.take k)) ∧ wr = w2) (fun n _ _ _ => xs.length - (intOf n).toNat)
  case atStart => exact ⟨0, by omega, rfl, rfl, rfl⟩
  case round =>
   obtain ⟨k, hk, rfl, rfl, rfl⟩ := hrel
   by_cases hlt : k < xs.length
   ·obtain ⟨ad, rfl, hab, hca⟩ := HR2.out.at_ hlt
    obtain ⟨Ar, cr, hxr, hrc, hrm, hrr⟩ := (HG2.out.got k hlt (by have := HXL.out; omega)).shape
    rw [hxr] at hca
    have hS := sumL_take (ls := RL) (k := k) (by have := HXL.out; omega)
    have hSB := sumL_le HRW.out k
    have hRk := HRW.out _ (List.getElem_mem (show k < RL.length by have := HXL.out; omega))
    obtain ⟨sk, hsk⟩ : ∃ sk, sk = sumL (RL.take k) := ⟨_, rfl⟩
    obtain ⟨rk, hrk⟩ : ∃ rk, rk = RL[k].length := ⟨_, rfl⟩
    rw [← hsk, ← hrk] at hS
    rw [← hsk] at hSB ⊢
    rw [← hrk] at hca hRk
    have HS := Lib.hid hS
    clear hS hsk hrk hxr hrc hrm hrr
    go_wp2_with fail
    go_roundw
    case rel => exact ⟨k + 1, by omega, by go_num, by rw [HS.out], trivial⟩
    case measure => simp [intOf]; omega
   ·obtain rfl : k = xs.length := by omega
    have hsum := sumL_le HRW.out xs.length
    rw [List.take_of_length_le (by have := HXL.out; omega)] at hsum ⊢
    obtain ⟨SM, hSM⟩ : ∃ SM, SM = sumL RL := ⟨_, rfl⟩
    rw [← hSM] at hsum ⊢
    have HSM := Lib.hid hSM
    clear hSM
    have hD2 := H.out.below HB2.out
    have hszr : sizes (sec FE.f es) ≤ 549755813888 := by have := HOK.out.sz; simp only at this; omega
    have hroom : 0 ≤ room ∧ room ≤ 9223372036854775807 := H.out.num.2.2
    have hfl : ∀ q ∈ es, q.2.f.b.length ≤ 549755813888 := fun q hq => by
     have h1 := sizes_mem (q := (q.1, q.2.f)) (l := sec FE.f es) (List.mem_map.2 ⟨q, hq, rfl⟩)
     simp only at h1
     omega
    have HRE := Lib.hid (dread_any hD2 ⟨#[115, 46, 110, 101, 119]⟩ (by show 5 ≤ _; omega) (fun q hq => by have := hfl q hq; omega))
    change Hid (Calls _ _ _ _ fun e w' => ∃ v, e = .returned (.tuple #[v, .int .i64 ((dkOf p room es).read newN).2]) ∧ Bs w' wr.heap.size v ((dkOf p room es).read newN).1 ∧ Below wr.heap.size wr w') at HRE
    have hs0 := sizes_nonneg (sec FE.f es)
    have hrdl : (((dkOf p room es).read newN).1.length : Int) ≤ sizes (sec FE.f es) := by
     unfold DkD.read
     split
     ·simpa using hs0
     ·split
      ·simpa using hs0
      ·rename_i f hf
       have := sizes_mem (get_mem hf)
       show (f.b.length : Int) ≤ _
       simp only at this
       omega
    have HFR := Lib.hid (fun W (hb : Below w.heap.size w W) => free_any (H.out.below hb) (by omega))
    obtain ⟨hroom0, hroom⟩ := hroom
    have HFE := Lib.hid (show (dkOf p room es).free = room - sizes (sec FE.f es) from rfl)
    obtain ⟨OL, hOL⟩ : ∃ OL, OL = ((dkOf p room es).read newN).1 := ⟨_, rfl⟩
    obtain ⟨OE, hOE⟩ : ∃ OE, OE = ((dkOf p room es).read newN).2 := ⟨_, rfl⟩
    rw [← hOL] at hrdl
    rw [← hOL, ← hOE] at HRE
    have HOL := Lib.hid hOL
    have HOE := Lib.hid hOE
    have e2 : wr.cell? ⟨w.heap.size, 0, none⟩ = some (.pointer (some ⟨g, 0, none⟩)) := HK2.out.1.cell 0
    clear hOL hOE hD2 hfl
    go_wp2_with fail
    refine HRE.out.mono ?_
    rintro e w3 ⟨v3, rfl, hv3, hb3⟩
    obtain ⟨A3, c3, rfl, hc3, hm3, hr3⟩ := bs_shape hv3
    have HB3 := Lib.hid (HB2.out.trans (hb3.mono hs2))
    have HK3 := Lib.hid (And.intro (HK2.out.1.below hb3 (by omega)) (HK2.out.2.below hb3 (by omega)))
    have HG3 := Lib.hid (HG2.out.below hb3 (Nat.le_refl _))
    have hSZ3 : w.heap.size + 2 ≤ w3.heap.size := by have := hb3.size; omega
    have e3 : w3.cell? ⟨w.heap.size, 0, none⟩ = some (.pointer (some ⟨g, 0, none⟩)) := HK3.out.1.cell 0
    clear hv3 hb3 hr3 e2 HRE HK2 HG2 HB2 HR2
    have HR3 := Lib.hid HG3.out.own.shape
    go_wp2_with fail
    refine (HFR.out w3 HB3.out).mono ?_
    rintro e w4 ⟨rfl, hb4⟩
    have HB4 := Lib.hid (HB3.out.trans (hb4.mono HB3.out.size))
    have HK4 := Lib.hid (And.intro (HK3.out.1.below hb4 (by omega)) (HK3.out.2.below hb4 (by omega)))
    have HG4 := Lib.hid (HG3.out.below hb4 (Nat.le_refl _))
    have hSZ4 : w.heap.size + 2 ≤ w4.heap.size := by have := hb4.size; omega
    have e4 : w4.cell? ⟨w.heap.size, 0, none⟩ = some (.pointer (some ⟨g, 0, none⟩)) := HK4.out.1.cell 0
    clear hb4 e3 HK3 HG3 HB3 HFR
    by_cases hfull : room - sizes (sec FE.f es) + OL.length < SM
    ·have HE : Hid (R = (52, dkOf p room es)) := Lib.hid (by
      rw [HR.out]
      unfold saveD
      rw [if_neg ho, if_neg (by simp), if_pos (by rw [HFE.out, ← HOL.out, ← HSM.out]; exact hfull)])
     go_wp2_with fail
     go_ret
     rw [HE.out]
     exact ⟨rfl, DiskTo.mk' (H.out.below HB4.out) (Fr.of_below _ HB4.out)⟩
    ·have HE : Hid (R = if (runS (actsL (dkOf p room es) i RL) (dkOf p room es)).1 = 0 then tailS (runS (actsL (dkOf p room es) i RL) (dkOf p room es)).2 else runS (actsL (dkOf p room es) i RL) (dkOf p room es)) := Lib.hid (by
      rw [HR.out]
      unfold saveD
      rw [if_neg ho, if_neg (by simp), if_neg (by rw [HFE.out, ← HOL.out, ← HSM.out]; exact hfull)])
     have hmf : ∀ (fn : Fn) (first cap : Array Value) (w : World), (Instr.makeFunc fn first cap).run Tryz.prog w = .ok (.func fn first cap) w := fun _ _ _ _ => rfl
     go_upto_if 64 with fail
     go_cut [13] from 65 to 68 (fun v wx => ∃ vs, Hid (Own wx w4.heap.size 60 v vs) ∧ Hid (ActsV w4 wx w.heap.size w.heap.size (w.heap.size + 1) vs (if OE = 0 then [.rm] else [])) ∧ Hid (Below w4.heap.size w4 wx))
     case first =>
      by_cases h0 : OE = 0
      ·subst h0
       go_wp2_with (at_builtin; refine wpList_push2 (w := w4) rfl (.tmp 65) (.tmp 67) 58 rfl w4.heap.size 60 .nilFunc 8 Tryz.underlying58 info_fn rfl (.slice none 0 0) [] _ rfl rfl (Own.nil _ _ _) rfl rfl (by simp) (by simp) (Nat.le_refl _) ?_; intro v5 w5 hov5 hg5 hf5; have HO5 := Lib.hid hov5; have HB5 := Lib.hid (show Below w4.heap.size w4 w5 from (Below.refl _ w4).grown hg5 (Nat.le_refl _) (fun k hk => by cases hk)); clear hov5 hg5 hf5)
       go_meet
       exact ⟨_, HO5, Lib.hid (by rw [if_pos trivial]; exact ActsV.one rfl), HB5⟩
      ·go_wp2_with fail
       go_meet
       exact ⟨[], Lib.hid (Own.nil _ _ _), Lib.hid (by rw [if_neg h0]; exact ActsV.nil), Lib.hid (Below.refl _ _)⟩
     case rest =>
      obtain ⟨vs0, HO0, HA0, HW0⟩ := hcut
      obtain ⟨pre, hpre⟩ : ∃ pre : List SAct, pre = if OE = 0 then [.rm] else [] := ⟨_, rfl⟩
      rw [← hpre] at HA0
      have hpl : pre.length ≤ 1 := by rw [hpre]; split <;> simp
      have HPRE := Lib.hid hpre
      clear hpre
      go_wp2_with fail
      go_loopw [71, 13, 15] (fun n v _ wq => ∃ (k : Nat) (vs : List Value), k ≤ xs.length ∧ n = .int .i64 k ∧ Hid (Own wq w4.heap.size 60 v vs) ∧ Hid (ActsV w4 wq w.heap.size w.heap.size (w.heap.size + 1) vs (pre ++ (RL.take k).map .app)) ∧ Hid (Below w4.heap.size w4 wq)) (fun n _ _ _ => xs.length - (intOf n).toNat)
      case atStart => exact ⟨0, vs0, by omega, rfl, HO0, Lib.hid (by rw [List.take_zero, List.map_nil, List.append_nil]; exact HA0.out), HW0⟩
      case round =>
       obtain ⟨k, vs, hk, rfl, HO, HA, HW⟩ := hrel
       by_cases hlt : k < xs.length
       ·have HGk := HG4.out.got k hlt (by have := HXL.out; omega)
        obtain ⟨Ar, cr, hxr, hrc, hrm, hrr⟩ := HGk.shape
        have hrd2 := (own_rd HG4.out.own).below HW.out
        obtain ⟨ad, rfl, hab, hca⟩ := hrd2.at_ hlt
        rw [hxr] at hca HGk
        have HLO := Lib.hid HGk.lo
        have HRR := Lib.hid hrr
        have hsq := HW.out.size
        have hvl : vs.length ≤ 3001 := by
         have := HA.out.1
         rw [List.length_append, List.length_map, List.length_take] at this
         omega
        have hRk := HRW.out _ (List.getElem_mem (show k < RL.length by have := HXL.out; omega))
        have HTK := Lib.hid (show RL.take (k + 1) = RL.take k ++ [RL[k]'(by have := HXL.out; omega)] by rw [List.take_add_one, List.getElem?_eq_getElem (by have := HXL.out; omega)]; rfl)
        obtain ⟨rk, hrk⟩ : ∃ rk, rk = RL[k]'(by have := HXL.out; omega) := ⟨_, rfl⟩
        rw [← hrk] at hca hRk HTK HRR hrc
        clear hrk hxr hrm hrr HGk hrd2
        have hbA := (Below.refl wr.heap.size wr).alloc (Nat.le_refl _) (.cells #[.slice Ar rk.length cr] 27)
        have hKb := Blk.new wr 27 #[.slice Ar rk.length cr]
        have hsA5 : (wr.alloc (.cells #[.slice Ar rk.length cr] 27)).heap.size = wr.heap.size + 1 := by simp
        have HOA := Lib.hid (HO.out.below hbA (Nat.le_refl _))
        have HAA := Lib.hid (HA.out.below hbA)
        have HBAA := Lib.hid (HW.out.trans (hbA.mono hsq))
        have HKb := Lib.hid hKb
        have HSA5 := Lib.hid hsA5
        clear hbA hKb hsA5
        go_wp2_with (at_builtin; go_loud (refine wpList_push2 (w := wr.alloc (.cells #[.slice Ar rk.length cr] 27)) rfl (.tmp 75) (.tmp 77) 58 rfl w4.heap.size 60 .nilFunc 8 Tryz.underlying58 info_fn rfl _ _ _ rfl rfl HOA.out (congrArg (fun n => Value.slice (some ⟨n, 0, none⟩) 1 1) HSA5.out.symm) rfl (by omega) (by omega) (by rw [HSA5.out]; omega) ?_); intro v5 w5 hov5 hg5 hf5; have HO5 := Lib.hid hov5; have HG5 := Lib.hid hg5; clear hov5 hg5 hf5)
        go_roundw
        case rel =>
         have hlt5 : ∀ q, u13.ownBlock = some q → q < wr.heap.size := fun q hq => (HO.out.lt q hq).2
         refine ⟨k + 1, _, by omega, by go_num, HO5, Lib.hid ?_, Lib.hid (HBAA.out.grown HG5.out (by rw [HSA5.out]; omega) (fun q hq => (HOA.out.lt q hq).1))⟩
         rw [HTK.out, List.map_append, ← List.append_assoc]
         refine (HAA.out.grown HOA.out HG5.out).push (ActsV.one ⟨wr.heap.size, Ar, cr, rfl, hsq, (HG5.out.block wr.heap.size (by rw [HSA5.out]; omega) (fun e => by have := hlt5 _ e.symm; omega)).trans HKb.out, hrc, hRk, HRR.out, HLO.out⟩)
        case measure => simp [intOf]; omega
       ·obtain rfl : k = xs.length := by omega
        rw [List.take_of_length_le (by have := HXL.out; omega)] at HA
        have hvl : vs.length ≤ 3001 := by
         have := HA.out.1
         have := HXL.out
         rw [List.length_append, List.length_map] at *
         omega
        obtain ⟨f1, hf1⟩ : ∃ f1, f1 = Value.func (.func 22) #[] #[.pointer (some ⟨w.heap.size, 0, none⟩)] := ⟨_, rfl⟩
        obtain ⟨f2, hf2⟩ : ∃ f2, f2 = Value.func (.func 24) #[] #[.pointer (some ⟨w.heap.size, 0, none⟩), .pointer (some ⟨w.heap.size + 1, 0, none⟩)] := ⟨_, rfl⟩
        have hrdw := rd_lit wr 60 [f1, f2]
        have hbA := (Below.refl wr.heap.size wr).alloc (Nat.le_refl _) (.cells #[f1, f2] 60)
        have hsA5 : (wr.alloc (.cells #[f1, f2] 60)).heap.size = wr.heap.size + 1 := by simp
        have hsq := HW.out.size
        have hone : ∀ u ∈ [f1, f2], u.oneCell' = true := by
         intro u hu
         rcases List.mem_cons.1 hu with rfl | hu
         ·rw [hf1]; rfl
         ·rw [List.mem_singleton.1 hu, hf2]; rfl
        have HA3 := Lib.hid (show ActsV w4 wr w.heap.size w.heap.size (w.heap.size + 1) [f1, f2] [.sync, .ren i] from (ActsV.one (v := f1) (a := .sync) hf1).push (ActsV.one (v := f2) (a := .ren i) hf2))
        rw [hf1, hf2] at hrdw hbA hsA5 hone HA3
        clear hf1 hf2
        have HOA := Lib.hid (HO.out.below hbA (Nat.le_refl _))
        have HAA := Lib.hid ((HA.out.push HA3.out).below hbA)
        have HBAA := Lib.hid (HW.out.trans (hbA.mono hsq))
        have HRW2 := Lib.hid (hrdw.more (show wr.heap.size + 1 ≤ wr.heap.size + 1 from Nat.le_refl _))
        have HSA5 := Lib.hid hsA5
        have HONE := Lib.hid hone
        clear hbA hrdw hsA5 hone HA3
        go_wp2_with (at_builtin; go_loud (refine wpList_append_any rfl (.tmp 80) (.tmp 83) 58 rfl w4.heap.size 60 .nilFunc 8 Tryz.underlying58 info_fn rfl _ _ rfl HOA.out (wr.heap.size + 1) (some ⟨wr.heap.size, 0, none⟩) 2 2 _ rfl rfl HRW2.out HONE.out (by unfold maxLen; omega) (by omega) (by rw [HSA5.out]; omega) ?_); intro v6 w6 hov6 hg6 hf6; obtain ⟨A6, c6, rfl, hc61, hc62, hr6⟩ := hov6.shape; have HR6 := Lib.hid hr6; have HO6 := Lib.hid hov6; have HA6 := Lib.hid (HAA.out.grown HOA.out hg6); have HB6 := Lib.hid (HBAA.out.grown hg6 (by rw [HSA5.out]; omega) (fun q hq => (HOA.out.lt q hq).1)); clear hov6 hg6 hf6 hr6)
        obtain ⟨us, hus⟩ : ∃ us, us = vs ++ [Value.func (.func 22) #[] #[.pointer (some ⟨w.heap.size, 0, none⟩)], Value.func (.func 24) #[] #[.pointer (some ⟨w.heap.size, 0, none⟩), .pointer (some ⟨w.heap.size + 1, 0, none⟩)]] := ⟨_, rfl⟩
        obtain ⟨al, hal⟩ : ∃ al, al = pre ++ RL.map .app ++ [.sync, .ren i] := ⟨_, rfl⟩
        rw [← hus, ← hal] at HA6
        rw [← hus] at HO6 HR6 hc61
        have HUL := Lib.hid (show us.length = vs.length + 2 by rw [hus]; simp)
        have HAL := Lib.hid (show al = actsL (dkOf p room es) i RL by rw [hal]; unfold actsL; rw [HPRE.out, HOE.out])
        have HREN := Lib.hid (show ∀ a ∈ al, ∀ j, a = .ren j → j = i by
         intro a ha j hj
         subst hj
         rw [hal, List.mem_append, List.mem_append, HPRE.out] at ha
         rcases ha with (ha | ha) | ha
         ·split at ha <;> simp at ha
         ·simp at ha
         ·simpa using ha)
        clear hus hal HAA HOA HBAA HRW2 HSA5 HONE HO HA HW HA0 HO0 HW0
        rw [← HAL.out] at HE
        have hlow : ∀ k, DFoot g m es k → base ≤ k ∧ k < w.heap.size := H.out.lt
        have HB06 := Lib.hid (HB4.out.trans (HB6.out.mono HB4.out.size))
        have hs46 := HB6.out.size
        have HK6 := Lib.hid (And.intro (HK4.out.1.below HB6.out (by omega)) (HK4.out.2.below HB6.out (by omega)))
        have HOF6 := Lib.hid (fun q (hq : (Value.slice A6 us.length c6).ownBlock = some q) => HO6.out.lt q hq)
        have HLOW := Lib.hid hlow
        have HOKN := Lib.hid (show DOk (N + 0) (dkOf p room es) from HOK.out)
        have hln : al.length = vs.length + 2 := by rw [← HUL.out]; exact HA6.out.1.symm
        have HLN := Lib.hid hln
        have HB46 := Lib.hid HB6.out
        clear hlow hc61 hln e4 HB6
        go_loopw [87, 17, 18] (fun n _ _ wq => ∃ (k : Nat) (d : DkD), k ≤ vs.length + 2 ∧ n = .int .i64 k ∧ Hid (DiskTo w6 base g m es d wq) ∧ Hid (runS al (dkOf p room es) = runS (al.drop k) d) ∧ Hid (DOk (N + k) d)) (fun n _ _ _ => vs.length + 2 - (intOf n).toNat)
        case atStart => exact ⟨0, _, by omega, rfl, Lib.hid (DiskTo.mk' (H.out.below HB06.out) (Fr.refl _ _)), Lib.hid (by rw [List.drop_zero]), HOKN⟩
        case round =>
         obtain ⟨k, d, hk, rfl, HT, HRU, HOKk⟩ := hrel
         obtain ⟨esk, hD, hfs, hFr, hft⟩ := HT.out
         obtain ⟨pw, rm, fs⟩ := d
         simp only at hfs hD
         subst hfs
         by_cases hlt : k < vs.length + 2
         ·have hku : k < us.length := by have := HUL.out; omega
          have hka : k < al.length := by have := HLN.out; omega
          have hact := HA6.out.2 k hku hka
          have hren := HREN.out _ (List.getElem_mem hka)
          have hdr : al.drop k = al[k] :: al.drop (k + 1) := (List.getElem_cons_drop hka).symm
          obtain ⟨u, hu⟩ : ∃ u, u = us[k] := ⟨_, rfl⟩
          obtain ⟨a, ha⟩ : ∃ a, a = al[k] := ⟨_, rfl⟩
          rw [← ha] at hact hren hdr
          rw [← hu] at hact
          have hsz6 := hFr.size
          have hbk : ∀ q, w.heap.size ≤ q → q < w6.heap.size → wr.heap[q]? = w6.heap[q]? := fun q h1 h2 => hFr.block q h2 (fun e => by have := HLOW.out q e; omega)
          have hrk : Rd wr w6.heap.size A6 us := Rd.off HR6.out (fun ad e _ => by
           have h1 := HOF6.out ad.block (by subst e; rfl)
           exact hbk ad.block (by omega) h1.2)
          obtain ⟨ad, rfl, hab, hca⟩ := hrk.at_ hku
          rw [← hu] at hca
          have hact' : ActV w4 wr w.heap.size w.heap.size (w.heap.size + 1) u a := hact.keep fun b cs h1 h2 => hbk b (by omega) h2.lt
          have c2 : wr.cell? ⟨w.heap.size, 0, none⟩ = some (.pointer (some ⟨g, 0, none⟩)) := (World.cell?_of_block (hbk w.heap.size (Nat.le_refl _) (by omega))).trans (HK6.out.1.cell 0)
          have c3 : wr.cell? ⟨w.heap.size + 1, 0, none⟩ = some (.int .i64 i) := (World.cell?_of_block (hbk (w.heap.size + 1) (by omega) (by omega))).trans (HK6.out.2.cell 0)
          have hbB : Below base w wr := HB06.out.mono hbase |>.trans (hFr.below (by omega) (fun j hj => (HLOW.out j hj).1))
          have hftl : ∀ q, DFoot g m esk q → q < w.heap.size ∨ w6.heap.size ≤ q := fun q hq => by
           rcases hft q hq with h1 | h1
           ·exact .inl (HLOW.out q h1).2
           ·exact .inr h1
          obtain ⟨F, caps, hv, hent, hcall⟩ := act_calls hD hact' c2 c3 hren hi (HF.out _ hbB).tab (fun A' l' h1 h2 => (Rd.off (h1.below HB46.out) (fun ad' e h3 => hbk ad'.block (h2 ad' e) (by omega))).more (Nat.le_trans hs46 hsz6)) HOKk.out (by omega) (fun e => by have := hftl _ e; omega) (fun e => by have := hftl _ e; omega)
          subst hv
          obtain ⟨AR, hAR⟩ : ∃ AR, AR = a.run (dkOf pw rm esk) := ⟨_, rfl⟩
          rw [← hAR] at hcall
          have HRU2 := Lib.hid (show runS al (dkOf p room es) = if AR.1 = 0 then runS (al.drop (k + 1)) AR.2 else AR by
           rw [HRU.out, hdr, hAR]
           rfl)
          have HOK2 := Lib.hid (show DOk (N + (k + 1)) AR.2 by rw [hAR]; exact SAct.ok a (fun j hj => by rw [hren j hj]; exact hi) (fun q e => by have h := hact'; rw [e] at h; obtain ⟨_, _, _, _, _, _, _, h, _⟩ := h; exact h) HOKk.out)
          have HCALL := Lib.hid hcall
          have HSTEP := Lib.hid (show ∀ W' d', DiskTo wr base g m esk d' W' → DiskTo w6 base g m es d' W' from fun W' d' h => DiskTo.step2 hFr hft h)
          clear hact hren hdr ha hu hrk hact' c2 c3 hbB hftl hcall hAR hft hbk hFr hD HT
          go_wp2_with fail
          rw [hent caps wr]
          refine HCALL.out.mono ?_
          rintro e w7 ⟨rfl, hT7⟩
          have HT7 := Lib.hid (HSTEP.out _ _ hT7)
          clear hT7 HCALL HSTEP hent hca
          by_cases hz7 : AR.1 = 0
          ·rw [hz7]
           have HRU3 := Lib.hid (show runS al (dkOf p room es) = runS (al.drop (k + 1)) AR.2 by rw [HRU2.out, if_pos hz7])
           clear hz7
           go_wp2_with fail
           go_roundw
           case rel => exact ⟨k + 1, AR.2, by omega, by go_num, HT7, HRU3, HOK2⟩
           case measure => simp [intOf]; omega
          ·have HRF := Lib.hid (show R = AR by rw [HE.out, HRU2.out, if_neg hz7, if_neg hz7])
           have HB6F := Lib.hid (Fr.of_below (DFoot g m es) HB06.out)
           go_wp2_with fail
           go_ret
           rw [HRF.out]
           exact ⟨rfl, DiskTo.step HB6F.out (fun k hk => .inl hk) HT7.out⟩
         ·obtain rfl : k = vs.length + 2 := by omega
          have hdr : al.drop (vs.length + 2) = [] := List.drop_eq_nil_of_le (by rw [HLN.out]; exact Nat.le_refl _)
          have HRT := Lib.hid (show R = tailS (dkOf pw rm esk) by
           have h1 : runS al (dkOf p room es) = (0, dkOf pw rm esk) := by rw [HRU.out, hdr]; rfl
           rw [HE.out, h1, if_pos rfl])
          have hsz6 := hFr.size
          have hbk : ∀ q, w.heap.size ≤ q → q < w6.heap.size → wr.heap[q]? = w6.heap[q]? := fun q h1 h2 => hFr.block q h2 (fun e => by have := HLOW.out q e; omega)
          have hbB : Below base w wr := HB06.out.mono hbase |>.trans (hFr.below (by omega) (fun j hj => (HLOW.out j hj).1))
          have c2 : wr.cell? ⟨w.heap.size, 0, none⟩ = some (.pointer (some ⟨g, 0, none⟩)) := (World.cell?_of_block (hbk w.heap.size (Nat.le_refl _) (by omega))).trans (HK6.out.1.cell 0)
          have hekl : esk.length ≤ 1000004000 := by
           have h1 := HOKk.out.len
           simp only [List.length_map] at h1
           omega
          have HIX := Lib.hid (indexes_any hD (by omega) (fun q hq => HOKk.out.nm (q.1, q.2.f) (List.mem_map.2 ⟨q, hq, rfl⟩)) (HF.out _ hbB).err)
          have HBB := Lib.hid hbB
          have hnm : (dkOf pw rm esk).fs.map (·.1) = esk.map (·.1) := by
           show (sec FE.f esk).map (·.1) = _
           rw [List.map_map]
           rfl
          unfold tailS at HRT
          rw [hnm] at HRT
          obtain ⟨zs, hzs⟩ : ∃ zs, zs = idxL (esk.map (·.1)) := ⟨_, rfl⟩
          have hzl : zs.length ≤ 1000004000 := by rw [hzs]; have := idxL_len (esk.map (·.1)); rw [List.length_map] at this; omega
          have HZM := Lib.hid (show ∀ n ∈ zs, 0 ≤ n ∧ n ≤ 1099511627776 from fun n hn => idxL_mem (by rw [← hzs]; exact hn))
          rw [← hzs] at HRT HIX
          have HD := Lib.hid hD
          have HFT := Lib.hid (And.intro hFr hft)
          clear hzs hnm hbB hdr hbk hD hFr hft HT
          go_wp2_with fail
          refine HIX.out.mono ?_
          rintro e w8 ⟨v8, rfl, hv8, hb8⟩
          obtain ⟨A8, c8, rfl, hc81, hc82, hr8⟩ := hv8.shape
          rw [List.length_map] at hc81
          rw [List.length_map]
          have HR8 := Lib.hid hr8
          have HV8 := Lib.hid hv8
          have HB8 := Lib.hid hb8
          have c28 : w8.cell? ⟨w.heap.size, 0, none⟩ = some (.pointer (some ⟨g, 0, none⟩)) := (hb8.cell (p := ⟨w.heap.size, 0, none⟩) (by show w.heap.size < wr.heap.size; omega)).trans c2
          clear hv8 hb8 hr8 HIX
          go_wp2_with fail
          obtain ⟨mN, hmN⟩ : ∃ mN, mN = zs.length - 2 := ⟨_, rfl⟩
          have hmax : max ((zs.length : Int) - 2) 0 = (mN : Int) := by omega
          rw [hmax, Int.toNat_natCast]
          rw [← hmN] at HRT
          have hml : mN ≤ zs.length := by omega
          have hD8 := HD.out.below HB8.out
          have HB8D := Lib.hid (Fr.of_below (DFoot g m esk) HB8.out)
          have hs8 := HB8.out.size
          have HFIN := Lib.hid (show ∀ W' d', DiskTo w8 base g m esk d' W' → DiskTo w base g m es d' W' from fun W' d' h => DiskTo.step (Fr.of_below (DFoot g m es) HB06.out) (fun k hk => .inl hk) (DiskTo.step2 HFT.out.1 HFT.out.2 (DiskTo.step HB8D.out (fun k hk => .inl hk) h)))
          have HA8N := Lib.hid (show ∀ ad, A8 = some ad → ¬ DFoot g m esk ad.block from fun ad e hf => by
           have h1 := (HV8.out.lt ad.block (by subst e; rfl)).1
           have h2 := (HD.out.lt _ hf).2
           omega)
          have HNB := Lib.hid (show ¬ DFoot g m esk w.heap.size from fun hf => by
           rcases HFT.out.2 _ hf with h1 | h1
           ·have := (HLOW.out _ h1).2; omega
           ·omega)
          have hb2l : w.heap.size < w8.heap.size := by omega
          have HB08 := Lib.hid (show Below base w w8 from HBB.out.trans (HB8.out.mono (by have := HBB.out.size; omega)))
          have HLB := Lib.hid (fun k (hk : DFoot g m esk k) => (HD.out.lt k hk).1)
          clear hmN hmax c2
          go_loopw [106, 21, 22] (fun n _ _ wq => ∃ (q : Nat) (d : DkD), q ≤ mN ∧ n = .int .i64 q ∧ Hid (DiskTo w8 base g m esk d wq) ∧ Hid (R = rmS ((zs.take mN).drop q) d)) (fun n _ _ _ => mN - (intOf n).toNat)
          case atStart => exact ⟨0, _, by omega, rfl, Lib.hid (DiskTo.mk' hD8 (Fr.refl _ _)), Lib.hid (by rw [List.drop_zero]; exact HRT.out)⟩
          case round =>
           obtain ⟨q, d, hq, rfl, HT, HRQ⟩ := hrel
           obtain ⟨ese, hD, hfs, hFr, hft⟩ := HT.out
           obtain ⟨pw2, rm2, fs2⟩ := d
           simp only at hfs hD
           subst hfs
           by_cases hlt : q < mN
           ·have hzq : q < (zs.map (Value.int .i64)).length := by rw [List.length_map]; omega
            have hqz : q < zs.length := by omega
            have hr9 : Rd wr w8.heap.size A8 (zs.map (Value.int .i64)) := Rd.off HR8.out (fun ad e h1 => hFr.block ad.block h1 (HA8N.out ad e))
            obtain ⟨ad, rfl, hab, hca⟩ := hr9.at_ hzq
            rw [List.getElem_map] at hca
            have c2 : wr.cell? ⟨w.heap.size, 0, none⟩ = some (.pointer (some ⟨g, 0, none⟩)) := (World.cell?_of_block (hFr.block w.heap.size hb2l HNB.out)).trans c28
            have hzm := HZM.out _ (List.getElem_mem hqz)
            have hdr : (zs.take mN).drop q = zs[q] :: (zs.take mN).drop (q + 1) := by
             have h1 : q < (zs.take mN).length := by rw [List.length_take]; omega
             have h2 := (List.getElem_cons_drop h1).symm
             rw [List.getElem_take] at h2
             exact h2
            obtain ⟨nq, hnq⟩ : ∃ nq, nq = zs[q] := ⟨_, rfl⟩
            rw [← hnq] at hca hzm hdr
            have hFw : Below base w wr := HB08.out.trans (hFr.below (by have := HB08.out.size; omega) (fun j hj => HLB.out j hj))
            have HNA := Lib.hid (fun j => kname_any nq (by omega) (wr.drewN j) ((HF.out _ hFw).tab.below (below_drewN (Below.refl _ wr) j)))
            have HLS := Lib.hid (sName_len nq (by omega))
            have hsz9 := hFr.size
            have HD9 := Lib.hid hD
            have HNB9 := Lib.hid (show ¬ DFoot g m ese w.heap.size from fun hf => by
             rcases hft _ hf with h1 | h1
             ·exact HNB.out h1
             ·omega)
            have HST9 := Lib.hid (show ∀ W' d', DiskTo wr base g m ese d' W' → DiskTo w8 base g m esk d' W' from fun W' d' h => DiskTo.step2 hFr hft h)
            obtain ⟨AR, hAR⟩ : ∃ AR, AR = (dkOf pw2 rm2 ese).remove (sName nq) := ⟨_, rfl⟩
            have HRR := Lib.hid (show R = if AR.1 = 0 then rmS ((zs.take mN).drop (q + 1)) AR.2 else AR by
             rw [HRQ.out, hdr, hAR]
             rfl)
            have HAR := Lib.hid hAR
            clear hnq hdr hzm hFw hFr hft hD hr9 HT HRQ hAR
            have hb2w : w.heap.size < wr.heap.size := by omega
            go_wp2_with fail
            refine wp_region_held_drew (S := fun W => W.cell? ⟨w.heap.size, 0, none⟩ = some (.pointer (some ⟨g, 0, none⟩)) ∧ True ∧ True ∧ True) (by kernel_rfl) ⟨c2, trivial, trivial, trivial⟩ (fun hHeld => ?_)
            refine held_take 0 (v := ?_) (by simp) (by kernel_rfl) (by kernel_rfl) (by kernel_rfl) (fun _ _ _ h => h) (Or.inl ⟨by rfl, ?_⟩) hHeld ?_
            case refine_2 => (intro w hSw; (try dsimp only at hSw); (try (obtain ⟨s0, s1, s2, s3⟩ := hSw)); simp only [List.getElem_cons_zero]; go_simp <;> with_reducible rfl)
            simp only [List.getElem_cons_zero, Act.put, List.setIfInBounds_toArray, List.set_cons_zero, List.set_cons_succ]
            refine held_take 1 (v := ?_) (by simp) (by kernel_rfl) (by kernel_rfl) (by kernel_rfl) (fun _ _ _ h => h) (Or.inl ⟨by rfl, ?_⟩) hHeld ?_
            case refine_2 => (intro w hSw; (try dsimp only at hSw); (try (obtain ⟨s0, s1, s2, s3⟩ := hSw)); simp only [List.getElem_cons_zero, List.getElem_cons_succ]; go_simp <;> with_reducible rfl)
            simp only [List.getElem_cons_zero, List.getElem_cons_succ, Act.put, List.setIfInBounds_toArray, List.set_cons_zero, List.set_cons_succ]
            refine held_sole 2 (by simp) (by kernel_rfl) (fun K hK => ?_)
            simp only [List.getElem_cons_zero, List.getElem_cons_succ]
            go_simp
            refine (show Calls _ _ _ wr.drew _ from HNA.out 1).mono ?_
            rintro e w9 ⟨rfl, hb9⟩
            have hb9' : Below wr.heap.size wr w9 := ((Below.refl _ wr).drew).trans hb9
            have d2 : w9.cell? ⟨w.heap.size, 0, none⟩ = some (.pointer (some ⟨g, 0, none⟩)) := (hb9'.cell (p := ⟨w.heap.size, 0, none⟩) hb2w).trans c2
            have HC := Lib.hid (dremove_any (HD9.out.below hb9') (str (sName nq)) (by show (sName nq).toArray.size ≤ _; rw [List.size_toArray]; have := HLS.out; omega))
            change Hid (Calls _ _ _ _ fun e w' => e = .returned (.int .i64 ((dkOf pw2 rm2 ese).remove (sName nq)).1) ∧ DiskTo _ base g m ese ((dkOf pw2 rm2 ese).remove (sName nq)).2 w') at HC
            rw [← HAR.out] at HC
            have HB9 := Lib.hid (Fr.of_below (DFoot g m ese) hb9')
            have hs9 := hb9'.size
            clear hb9 hb9' HNA
            refine hK.out _ _ ⟨d2, trivial, trivial, trivial⟩ (fun hHeld => ?_)
            clear hK K
            try simp only [Act.put, List.setIfInBounds_toArray, List.set_cons_zero, List.set_cons_succ]
            refine held_sole 3 (by simp) (by kernel_rfl) (fun K hK => ?_)
            simp only [List.getElem_cons_zero, List.getElem_cons_succ]
            go_simp
            refine HC.out.mono ?_
            rintro e w10 ⟨rfl, hT⟩
            have HT10 := Lib.hid (DiskTo.step HB9.out (fun k hk => .inl hk) hT)
            have f2 : w10.cell? ⟨w.heap.size, 0, none⟩ = some (.pointer (some ⟨g, 0, none⟩)) := by
             obtain ⟨_, _, _, h3, _⟩ := HT10.out
             exact (World.cell?_of_block (h3.block w.heap.size hb2w HNB9.out)).trans c2
            clear hT HC
            refine hK.out _ _ ⟨f2, trivial, trivial, trivial⟩ (fun hHeld => ?_)
            clear hK K
            try simp only [Act.put, List.setIfInBounds_toArray, List.set_cons_zero, List.set_cons_succ]
            refine held_take 4 (v := ?_) (by simp) (by kernel_rfl) (by kernel_rfl) (by kernel_rfl) (fun _ _ _ h => h) (Or.inl ⟨by rfl, ?_⟩) hHeld ?_
            case refine_2 => (intro w hSw; (try dsimp only at hSw); (try (obtain ⟨s0, s1, s2, s3⟩ := hSw)); simp only [List.getElem_cons_zero, List.getElem_cons_succ]; go_simp <;> with_reducible rfl)
            simp only [List.getElem_cons_zero, List.getElem_cons_succ, Act.put, List.setIfInBounds_toArray, List.set_cons_zero, List.set_cons_succ]
            refine wpAnyH_done (by kernel_rfl) ?_ _
            clear c2 d2 f2 hca
            by_cases hz9 : AR.1 = 0
            ·rw [hz9]
             have HRU3 := Lib.hid (show R = rmS ((zs.take mN).drop (q + 1)) AR.2 by rw [HRR.out, if_pos hz9])
             clear hz9
             go_wp2_with fail
             go_roundw
             case rel => exact ⟨q + 1, AR.2, by omega, by go_num, Lib.hid (HST9.out _ _ HT10.out), HRU3⟩
             case measure => simp [intOf]; omega
            ·have HRF := Lib.hid (show R = AR by rw [HRR.out, if_neg hz9])
             go_wp2_with fail
             go_ret
             rw [HRF.out]
             exact ⟨rfl, HFIN.out _ _ (HST9.out _ _ HT10.out)⟩
           ·obtain rfl : q = mN := by omega
            have HRF := Lib.hid (show R = (0, dkOf pw2 rm2 ese) by
             rw [HRQ.out, List.drop_eq_nil_of_le (by rw [List.length_take]; omega)]
             rfl)
            have HTF := Lib.hid (HFIN.out _ _ HT.out)
            clear HT hD hFr hft
            go_wp2_with fail
            go_ret
            rw [HRF.out]
            exact ⟨rfl, HTF.out⟩
 ·have ho' : p.off = false := by simpa using ho
  have HE : Hid (R = (E, dkOf p room es)) := Lib.hid (by rw [HR.out]; unfold saveD; rw [if_neg ho, if_pos he])
  go_wp2_with fail
  go_ret
  rw [HE.out]
  exact ⟨rfl, DiskTo.mk' (H.out.below HB1.out) (Fr.of_below _ HB1.out)⟩
end Go.Proofs.YteehkcpokgeipaaGreatDoor
set_option linter.unusedVariables false
namespace Go.Proofs.YteehkcpokgeipaaGreatDoor
section
variable {α : Type}
def Apt (l : List (Nm × α)) : Prop := l.Pairwise fun p q => p.1 ≠ q.1
theorem Apt.del {l : List (Nm × α)} (h : Apt l) (n : Nm) : Apt (asDel n l) := List.Pairwise.filter _ h
theorem Apt.ins {x : Nm × α} : ∀ {l : List (Nm × α)}, Apt l → (∀ q ∈ l, q.1 ≠ x.1) → Apt (asIns x l)
 | [], _, _ => by unfold asIns Apt; simp
 | y :: r, h, hx => by
  have h2 := List.pairwise_cons.1 h
  unfold asIns
  split
  ·exact List.pairwise_cons.2 ⟨fun q hq => (hx q hq).symm, h⟩
  ·refine List.pairwise_cons.2 ⟨fun q hq => ?_, Apt.ins h2.2 fun q hq => hx q (List.mem_cons_of_mem _ hq)⟩
   rcases asIns_mem.1 hq with rfl | hq
   ·exact hx y List.mem_cons_self
   ·exact h2.1 q hq
theorem Apt.put {l : List (Nm × α)} (h : Apt l) (n : Nm) (a : α) : Apt (asPut n a l) := (h.del n).ins fun q hq => (asDel_mem.1 hq).2
end
end Go.Proofs.YteehkcpokgeipaaGreatDoor
set_option linter.unusedVariables false
namespace Go.Proofs.YteehkcpokgeipaaGreatDoor
open Oct
theorem closeS_len2 {q : List UInt8} (h : q.length ≤ 400) : (closeS q).length ≤ 414 := by
 unfold closeS
 split
 ·simp
 ·have := enc_len q.length (by omega)
  unfold piece head
  simp [Crc.four]
  omega
theorem flat_le2 {K : Nat} : ∀ {ls : List (List UInt8)}, (∀ r ∈ ls, r.length ≤ K) → ls.flatten.length ≤ K * ls.length
 | [], _ => by simp
 | x :: r, h => by
  have h1 := h x List.mem_cons_self
  have h2 := flat_le2 (ls := r) fun q hq => h q (List.mem_cons_of_mem _ hq)
  simp only [List.flatten_cons, List.length_append, List.length_cons, Nat.mul_add, Nat.mul_one]
  omega
theorem file_small {l : List UInt8} (h : l.length ≤ 67000) : fileL l ≠ [] ∧ (fileL l).flatten.length ≤ 100000 := by
 refine ⟨by unfold fileL; simp, ?_⟩
 have hr : ∀ r ∈ fileL l, r.length ≤ 414 := fun r hr => by
  unfold fileL at hr
  rcases List.mem_append.1 hr with hr | hr
  ·obtain ⟨q, hq, rfl⟩ := List.mem_map.1 hr
   refine closeS_len2 ?_
   unfold chunksL at hq
   obtain ⟨k, _, rfl⟩ := List.mem_map.1 hq
   exact ckL_le
  ·rw [List.mem_singleton.1 hr]
   refine closeS_len2 ?_
   have h1 := enc_len (chunksL l).length (by rw [chunksL_length]; omega)
   have h2 := enc_len (Crc.sum l) (by have := Crc.sum_lt l; omega)
   rw [List.length_append]
   omega
 have h1 := flat_le2 hr
 rw [fileL_len] at h1
 omega
theorem snap_small {i t : Int} {z : List Int} {l : List UInt8} (hz : ∀ n ∈ z, -9223372036854775808 ≤ n ∧ n ≤ 9223372036854775807) (hl : l.length ≤ 65536) : (snapS i t z l).length ≤ 67000 := by
 unfold snapS
 split
 ·rename_i hm
  obtain ⟨h1, h2, h3, h4, h5⟩ := may_len hm
  have e1 := enc_len (fold1 i) (by have := fold1_lt i (by omega); omega)
  have e2 := enc_len (fold1 t) (by have := fold1_lt t (by omega); omega)
  have e3 := encZ_len z hz h1
  unfold snapW
  rw [List.length_append, List.length_append, List.length_append]
  omega
 ·simp
end Go.Proofs.YteehkcpokgeipaaGreatDoor
