/- Two snapshots that are one (pavaneref23.Same). Condition: their slices can be read and hold the same. -/
import Derived.Test.YteehkcpokgeipaaGreatDoorKeepMay
import Derived.Test.YteehkcpokgeipaaGreatDoorSum
import Derived.Test.YteehkcpokgeipaaGreatDoorTot
import Derived.Test.YteehkcpokgeipaaGreatDoorOwned
import Derived.Handy
set_option linter.unusedVariables false
namespace Go.Proofs.YteehkcpokgeipaaGreatDoor
open Go.RowKit Oct
def rB1 (b : List UInt8) : List UInt8 := b.drop (takeU maxU b).2.1
def rB2 (b : List UInt8) : List UInt8 := (rB1 b).drop (takeU maxU (rB1 b)).2.1
def rI (b : List UInt8) : Int := unfold1 (takeU maxU b).1
def rT (b : List UInt8) : Int := unfold1 (takeU maxU (rB1 b)).1
def rZ (b : List UInt8) : List Int := (takeZ (rB2 b)).1
def rD (b : List UInt8) : List UInt8 := (rB2 b).drop (takeZ (rB2 b)).2.1
def readB (b : List UInt8) : Bool := decide ((takeU maxU b).2.2 = 0) && decide ((takeU maxU (rB1 b)).2.2 = 0) && decide ((takeZ (rB2 b)).2.2 = 0) && mayB (rI b) (rT b) (rZ b) (rD b)
def oI (b : List UInt8) : Int := if readB b = true then rI b else 0
def oT (b : List UInt8) : Int := if readB b = true then rT b else 0
def oZ (b : List UInt8) : List Int := if readB b = true then rZ b else []
def oD (b : List UInt8) : List UInt8 := if readB b = true then rD b else []
def oE (b : List UInt8) : Int := if readB b = true then 0 else 4
def SnapR (w : World) (base : Nat) (V : Value) (i t : Int) (z : List Int) (l : List UInt8) : Prop := ∃ x y, V = .agg #[.int .i64 i, .int .i64 t, x, y] ∧ Is w base x z ∧ Bs w base y l ∧ ∀ k, x.ownBlock = some k → y.ownBlock ≠ some k
theorem snapR_none {w : World} {base : Nat} {b : List UInt8} (h : readB b = false) : SnapR w base (.agg #[.int .i64 0, .int .i64 0, .slice none 0 0, .slice none 0 0]) (oI b) (oT b) (oZ b) (oD b) := by
 refine ⟨.slice none 0 0, .slice none 0 0, ?_, ?_, ?_, fun k h => by simp [Value.ownBlock] at h⟩
 ·simp [oI, oT, h]
 ·simp [oZ, h]; exact Own.nil _ _ _
 ·simp [oD, h]; exact Own.nil _ _ _
theorem takeZ_used (l : List UInt8) : (takeZ l).2.1 ≤ l.length := by
 by_cases h : (takeZ l).2.2 = 0
 ·exact (takeZ_form h).1
 ·have tz0 : ∀ n a acc, (tz l n a acc).2.2 ≠ 0 → (tz l n a acc).2.1 = 0 := by
   intro n
   induction n with
   | zero => intro a acc h; exact absurd rfl h
   | succ n ih =>
    intro a acc h
    unfold tz at h ⊢
    split at h
    ·rename_i hc; rw [if_pos hc]; exact ih _ _ h
    ·rename_i hc; rw [if_neg hc]
  unfold takeZ at h ⊢
  split
  ·rename_i hc; rw [if_pos hc] at h; rw [tz0 _ _ _ h]; exact Nat.zero_le _
  ·exact Nat.zero_le _
theorem blk4_cells {w : World} {g : Nat} {t : TypeId} {a b c d : Value} (h : Blk w g t #[a, b, c, d]) :
  w.cell? ⟨g, 0, none⟩ = some a ∧ w.cell? ⟨g, 1, none⟩ = some b ∧ w.cell? ⟨g, 2, none⟩ = some c ∧ w.cell? ⟨g, 3, none⟩ = some d ∧ w.frozen? ⟨g, 0, none⟩ = false ∧ w.frozen? ⟨g, 1, none⟩ = false ∧ w.frozen? ⟨g, 2, none⟩ = false ∧ w.frozen? ⟨g, 3, none⟩ = false :=
 ⟨h.cell 0, h.cell 1, h.cell 2, h.cell 3, h.frozen 0, h.frozen 1, h.frozen 2, h.frozen 3⟩
set_option maxRecDepth 100000 in
theorem results_snap {fn : Func} (h : fn.results = #[.cell 2 29, .tmp 3]) (tmps : Array Value) (W : World) (g : Nat) (a b c d : Value) (hp : tmps[2]?.getD undef = .pointer (some ⟨g, 0, none⟩)) (hB : Blk W g 29 #[a, b, c, d]) :
  (results fn tmps).run Tryz.prog W = .ok (.tuple #[.agg #[a, b, c, d], tmps.getD 3 undef]) W := by
 obtain ⟨e0, e1, e2, e3, f0, f1, f2, f3⟩ := blk4_cells hB
 simp [results, h, go_sem, hp, e0, e1, e2, e3]
theorem own_rd {w : World} {base : Nat} {e : TypeId} {A : Option Addr} {n c : Nat} {xs : List Value} (h : Own w base e (.slice A n c) xs) : Rd w w.heap.size A xs := by
 obtain ⟨A', c', h1, _, _, hr⟩ := h.shape
 injection h1 with h1
 rw [h1]; exact hr
theorem takeInt_tot (A : Option Addr) (l : List UInt8) (n c : Nat) (hn : n = l.length) (w : World) (hr : Rd w w.heap.size A (cells l)) (hl : l.length ≤ 4611686018427387904) :
  Calls Tryz.prog 51 #[.slice A n c] w fun e w' => e = .returned (.tuple #[.int .i64 (unfold1 (takeU maxU l).1), .int .i64 (takeU maxU l).2.1, .int .i64 (takeU maxU l).2.2]) ∧ Below w.heap.size w w' := by
 subst hn
 exact takeInt_any A l c w hr hl
theorem takeInts_tot (A : Option Addr) (l : List UInt8) (n c : Nat) (hn : n = l.length) (w : World) (hr : Rd w w.heap.size A (cells l)) (hl : l.length ≤ 4611686018427387904) :
  Calls Tryz.prog 52 #[.slice A n c] w fun e w' => ∃ v, e = .returned (.tuple #[v, .int .i64 (takeZ l).2.1, .int .i64 (takeZ l).2.2]) ∧ Is w' w.heap.size v (takeZ l).1 ∧ Below w.heap.size w w' := by
 subst hn
 exact takeInts_any A l c w hr hl
set_option maxHeartbeats 4000000 in
set_option maxRecDepth 100000 in
theorem read_any (A : Option Addr) (b : List UInt8) (n c : Nat) (hn : n = b.length) (w : World) (hr : Rd w w.heap.size A (cells b)) (hlc : b.length ≤ c) (hl : b.length ≤ 140737488351232) (hc : c ≤ 9223372036854775807) :
  Calls Tryz.prog 12 #[.slice A n c] w fun e w' => ∃ V, e = .returned (.tuple #[V, .int .i64 (oE b)]) ∧ SnapR w' w.heap.size V (oI b) (oT b) (oZ b) (oD b) ∧ Below w.heap.size w w' := by
 subst hn
 obtain ⟨G0, hG0⟩ : ∃ g, g = w.heap.size := ⟨_, rfl⟩
 have hbk0 := Blk.new w 29 #[.int .i64 0, .int .i64 0, .slice none 0 0, .slice none 0 0]
 have hbk1 := Blk.new (w.alloc (.cells #[.int .i64 0, .int .i64 0, .slice none 0 0, .slice none 0 0] 29)) 29 #[.int .i64 0, .int .i64 0, .slice none 0 0, .slice none 0 0]
 have hsz1 : (w.alloc (.cells #[.int .i64 0, .int .i64 0, .slice none 0 0, .slice none 0 0] 29)).heap.size = w.heap.size + 1 := by simp
 rw [hsz1] at hbk1
 have hbk2 := Blk.new ((w.alloc (.cells #[.int .i64 0, .int .i64 0, .slice none 0 0, .slice none 0 0] 29)).alloc (.cells #[.int .i64 0, .int .i64 0, .slice none 0 0, .slice none 0 0] 29)) 91 #[.pointer (some ⟨w.heap.size + 1, 0, none⟩), .pointer (some ⟨w.heap.size + 1, 1, none⟩)]
 have hsz2 : ((w.alloc (.cells #[.int .i64 0, .int .i64 0, .slice none 0 0, .slice none 0 0] 29)).alloc (.cells #[.int .i64 0, .int .i64 0, .slice none 0 0, .slice none 0 0] 29)).heap.size = w.heap.size + 1 + 1 := by simp
 rw [hsz2] at hbk2
 have K1 := Lib.hid ((hbk1.alloc (.cells #[.pointer (some ⟨w.heap.size + 1, 0, none⟩), .pointer (some ⟨w.heap.size + 1, 1, none⟩)] 91)))
 have K0 := Lib.hid ((hbk0.alloc (.cells #[.int .i64 0, .int .i64 0, .slice none 0 0, .slice none 0 0] 29)).alloc (.cells #[.pointer (some ⟨w.heap.size + 1, 0, none⟩), .pointer (some ⟨w.heap.size + 1, 1, none⟩)] 91))
 have K2 := Lib.hid hbk2
 have hb0 := Lib.hid ((((Below.refl w.heap.size w).alloc (Nat.le_refl _) (.cells #[.int .i64 0, .int .i64 0, .slice none 0 0, .slice none 0 0] 29)).alloc (by omega) (.cells #[.int .i64 0, .int .i64 0, .slice none 0 0, .slice none 0 0] 29)).alloc (by omega) (.cells #[.pointer (some ⟨w.heap.size + 1, 0, none⟩), .pointer (some ⟨w.heap.size + 1, 1, none⟩)] 91))
 have hsz3 : (((w.alloc (.cells #[.int .i64 0, .int .i64 0, .slice none 0 0, .slice none 0 0] 29)).alloc (.cells #[.int .i64 0, .int .i64 0, .slice none 0 0, .slice none 0 0] 29)).alloc (.cells #[.pointer (some ⟨w.heap.size + 1, 0, none⟩), .pointer (some ⟨w.heap.size + 1, 1, none⟩)] 91)).heap.size = w.heap.size + 3 := by simp
 have HZ := Lib.hid hsz3
 clear hbk0 hbk1 hbk2 hsz1 hsz2 hsz3 hG0 G0
 go_enter Tryz.func12, Tryz.ntmps12
 go_wp2_with fail
 refine wp_loop_rounds 3 ?_
 rw [rounds_succ]
 go_wp2_with fail
 refine (takeInt_tot A b b.length c rfl _ ((hr.below hb0.out).more hb0.out.size) (by omega)).mono ?_
 rintro e w1 ⟨rfl, hb1⟩
 rw [HZ.out] at hb1
 have hs1 : w.heap.size + 3 ≤ w1.heap.size := by have := hb1.size; rw [HZ.out] at this; exact this
 replace K0 := Lib.hid (K0.out.below hb1 (by omega))
 replace K1 := Lib.hid (K1.out.below hb1 (by omega))
 replace K2 := Lib.hid (K2.out.below hb1 (by omega))
 have hb01 := Lib.hid (hb0.out.trans (hb1.mono (by omega)))
 clear hb1 hb0 HZ
 by_cases h1 : (takeU maxU b).2.2 = 0
 ·have H1 := Lib.hid h1
  have h1b : ((takeU maxU b).2.2 != 0) = false := by simpa using h1
  clear h1
  have hu := takeU_used maxU b
  obtain ⟨u, hu'⟩ : ∃ u, u = (takeU maxU b).2.1 := ⟨_, rfl⟩
  rw [← hu'] at hu ⊢
  have hcut := fun W : World => run_cut_from (P := Tryz.prog) Tryz.underlying27 info_u8 A b.length c u hu (u : Int) rfl W
  have HR1 : Hid (rB1 b = b.drop u) := Lib.hid (by rw [hu']; rfl)
  clear hu'
  have K1d : Blk w1.drew (w.heap.size + 1) 29 #[.int .i64 0, .int .i64 0, .slice none 0 0, .slice none 0 0] := K1.out
  obtain ⟨e0, e1, e2, e3, f0, f1, f2, f3⟩ := blk4_cells K1d
  clear K1d
  go_upto_region 8 with fail
  refine wp_region_held_drew (S := fun _ => True) (by kernel_rfl) trivial (fun hHeld => ?_)
  refine held_take 0 (v := ?_) (by simp) (by kernel_rfl) (by kernel_rfl) (by kernel_rfl) (fun _ _ _ h => h) (Or.inl ⟨by rfl, ?_⟩) hHeld ?_
  case refine_2 => (intro w hSw; (try dsimp only at hSw); (try (obtain ⟨s0, s1, s2, s3⟩ := hSw)); simp only [List.getElem_cons_zero]; go_simp <;> with_reducible rfl)
  simp only [List.getElem_cons_zero, Act.put, List.setIfInBounds_toArray, List.set_cons_zero, List.set_cons_succ]
  refine held_take 1 (v := ?_) (by simp) (by kernel_rfl) (by kernel_rfl) (by kernel_rfl) (fun _ _ _ h => h) (Or.inl ⟨by rfl, ?_⟩) hHeld ?_
  case refine_2 => (intro w hSw; (try dsimp only at hSw); (try (obtain ⟨s0, s1, s2, s3⟩ := hSw)); simp only [List.getElem_cons_zero, List.getElem_cons_succ]; go_simp <;> with_reducible rfl)
  simp only [List.getElem_cons_zero, List.getElem_cons_succ, Act.put, List.setIfInBounds_toArray, List.set_cons_zero, List.set_cons_succ]
  refine held_take 2 (v := ?_) (by simp) (by kernel_rfl) (by kernel_rfl) (by kernel_rfl) (fun _ _ _ h => h) (Or.inl ⟨by rfl, ?_⟩) hHeld ?_
  case refine_2 => (intro w hSw; (try dsimp only at hSw); (try (obtain ⟨s0, s1, s2, s3⟩ := hSw)); simp only [List.getElem_cons_zero, List.getElem_cons_succ]; go_simp <;> with_reducible rfl)
  simp only [List.getElem_cons_zero, List.getElem_cons_succ, Act.put, List.setIfInBounds_toArray, List.set_cons_zero, List.set_cons_succ]
  refine held_take 3 (v := ?_) (by simp) (by kernel_rfl) (by kernel_rfl) (by kernel_rfl) (fun _ _ _ h => h) (Or.inl ⟨by rfl, ?_⟩) hHeld ?_
  case refine_2 => (intro w hSw; (try dsimp only at hSw); (try (obtain ⟨s0, s1, s2, s3⟩ := hSw)); simp only [List.getElem_cons_zero, List.getElem_cons_succ]; go_simp <;> with_reducible rfl)
  simp only [List.getElem_cons_zero, List.getElem_cons_succ, Act.put, List.setIfInBounds_toArray, List.set_cons_zero, List.set_cons_succ]
  refine held_take 4 (v := ?_) (by simp) (by kernel_rfl) (by kernel_rfl) (by kernel_rfl) (fun _ _ _ h => h) (Or.inl ⟨by rfl, ?_⟩) hHeld ?_
  case refine_2 => (intro w hSw; (try dsimp only at hSw); (try (obtain ⟨s0, s1, s2, s3⟩ := hSw)); simp only [List.getElem_cons_zero, List.getElem_cons_succ]; go_simp <;> with_reducible rfl)
  simp only [List.getElem_cons_zero, List.getElem_cons_succ, Act.put, List.setIfInBounds_toArray, List.set_cons_zero, List.set_cons_succ]
  refine held_take 5 (v := ?_) (by simp) (by kernel_rfl) (by kernel_rfl) (by kernel_rfl) (fun _ _ _ h => h) (Or.inl ⟨by rfl, ?_⟩) hHeld ?_
  case refine_2 => (intro w hSw; (try dsimp only at hSw); (try (obtain ⟨s0, s1, s2, s3⟩ := hSw)); simp only [List.getElem_cons_zero, List.getElem_cons_succ]; go_simp <;> with_reducible rfl)
  simp only [List.getElem_cons_zero, List.getElem_cons_succ, Act.put, List.setIfInBounds_toArray, List.set_cons_zero, List.set_cons_succ]
  refine held_sole 6 (by simp) (by kernel_rfl) (fun K hK => ?_)
  simp only [List.getElem_cons_zero, List.getElem_cons_succ]
  go_simp
  go_wp2_with fail
  refine hK.out _ _ trivial (fun hHeld => ?_)
  clear hK K
  try simp only [Act.put, List.setIfInBounds_toArray, List.set_cons_zero, List.set_cons_succ]
  refine held_take 7 (v := ?_) (by simp) (by kernel_rfl) (by kernel_rfl) (by kernel_rfl) (fun _ _ _ h => h) (Or.inl ⟨by rfl, ?_⟩) hHeld ?_
  case refine_2 => (intro w hSw; (try dsimp only at hSw); (try (obtain ⟨s0, s1, s2, s3⟩ := hSw)); simp only [List.getElem_cons_zero, List.getElem_cons_succ]; go_simp <;> with_reducible rfl)
  simp only [List.getElem_cons_zero, List.getElem_cons_succ, Act.put, List.setIfInBounds_toArray, List.set_cons_zero]
  refine wpAnyH_done (by kernel_rfl) ?_ _
  go_wp2_with fail
  clear e0 e1 e2 e3 f0 f1 f2 f3 hcut h1b
  have hg01 : w.heap.size ≠ w.heap.size + 1 := by omega
  have hg21 : w.heap.size + 1 + 1 ≠ w.heap.size + 1 := by omega
  have K0' := Lib.hid (show Blk (w1.setCell ⟨w.heap.size + 1, 0, none⟩ (.int .i64 (rI b))).drew w.heap.size 29 _ from Blk.far (p := ⟨w.heap.size + 1, 0, none⟩) K0.out hg01 (.int .i64 (rI b)))
  have K2' := Lib.hid (show Blk (w1.setCell ⟨w.heap.size + 1, 0, none⟩ (.int .i64 (rI b))).drew (w.heap.size + 1 + 1) 91 _ from Blk.far (p := ⟨w.heap.size + 1, 0, none⟩) K2.out hg21 (.int .i64 (rI b)))
  have K1' := Lib.hid (show Blk (w1.setCell ⟨w.heap.size + 1, 0, none⟩ (.int .i64 (rI b))).drew (w.heap.size + 1) 29 #[.int .i64 (rI b), .int .i64 0, .slice none 0 0, .slice none 0 0] from Blk.set_ K1.out 0 (.int .i64 (rI b)))
  have hb02 := Lib.hid ((hb01.out.setCell (p := ⟨w.heap.size + 1, 0, none⟩) (by show w.heap.size ≤ w.heap.size + 1; omega) (.int .i64 (rI b))).drew)
  have hs2 : w.heap.size + 3 ≤ (w1.setCell ⟨w.heap.size + 1, 0, none⟩ (.int .i64 (rI b))).drew.heap.size := by simp; omega
  have HI : Hid (unfold1 (takeU maxU b).1 = rI b) := Lib.hid rfl
  rw [HI.out]
  generalize hW2 : (w1.setCell ⟨w.heap.size + 1, 0, none⟩ (.int .i64 (rI b))).drew = W2 at K0' K1' K2' hb02 hs2 ⊢
  clear hW2 K0 K1 K2 hb01 hs1
  have hr1 : Rd w w.heap.size (cutA A u c) (cells (rB1 b)) := by
   have := Rd.cutA hr (k := u) (cap := c) (by rw [cells_length]; exact hu) (by rw [cells_length]; exact hlc)
   rw [HR1.out]
   simpa [cells, List.map_drop] using this
  have hlc1 : (rB1 b).length ≤ c - u := by rw [HR1.out, List.length_drop]; omega
  have HL1 : Hid (b.length - u = (rB1 b).length) := Lib.hid (by rw [HR1.out, List.length_drop])
  have hl1 : (rB1 b).length ≤ 140737488351232 := by rw [HR1.out, List.length_drop]; omega
  have hc1 : c - u ≤ 9223372036854775807 := by omega
  have q1 := (Blk.cell K2'.out 1)
  replace q1 : W2.cell? ⟨w.heap.size + 1 + 1, 1, none⟩ = some (.pointer (some ⟨w.heap.size + 1, 1, none⟩)) := q1
  generalize hN : b.length - u = N at HL1 ⊢
  generalize hC : c - u = C1 at hlc1 hc1 ⊢
  generalize hA : cutA A u c = A1 at hr1 ⊢
  clear hN hC hA
  rw [rounds_succ]
  go_wp2_with fail
  refine (takeInt_tot A1 (rB1 b) N C1 HL1.out W2 ((hr1.below hb02.out).more hb02.out.size) (by omega)).mono ?_
  rintro e w2 ⟨rfl, hb2⟩
  have hs3 : w.heap.size + 3 ≤ w2.heap.size := Nat.le_trans hs2 hb2.size
  have K0 := Lib.hid (K0'.out.below hb2 (by omega))
  have K1 := Lib.hid (K1'.out.below hb2 (by omega))
  have K2 := Lib.hid (K2'.out.below hb2 (by omega))
  have hb03 := Lib.hid (hb02.out.trans (hb2.mono (by omega)))
  clear hb2 hb02 K0' K1' K2' q1 hs2
  by_cases h2 : (takeU maxU (rB1 b)).2.2 = 0
  ·have H2 := Lib.hid h2
   have h2b : ((takeU maxU (rB1 b)).2.2 != 0) = false := by simpa using h2
   clear h2
   have hu2 := takeU_used maxU (rB1 b)
   obtain ⟨u2, hu2'⟩ : ∃ u2, u2 = (takeU maxU (rB1 b)).2.1 := ⟨_, rfl⟩
   rw [← hu2'] at hu2 ⊢
   have hcut := fun W : World => run_cut_from (P := Tryz.prog) Tryz.underlying27 info_u8 A1 N C1 u2 (by rw [HL1.out]; exact hu2) (u2 : Int) rfl W
   have HR2 : Hid (rB2 b = (rB1 b).drop u2) := Lib.hid (by rw [hu2']; rfl)
   clear hu2'
   have K1d : Blk w2.drew (w.heap.size + 1) 29 #[.int .i64 (rI b), .int .i64 0, .slice none 0 0, .slice none 0 0] := K1.out
   obtain ⟨e0, e1, e2, e3, f0, f1, f2, f3⟩ := blk4_cells K1d
   clear K1d
   go_upto_region 8 with fail
   refine wp_region_held_drew (S := fun _ => True) (by kernel_rfl) trivial (fun hHeld => ?_)
   refine held_take 0 (v := ?_) (by simp) (by kernel_rfl) (by kernel_rfl) (by kernel_rfl) (fun _ _ _ h => h) (Or.inl ⟨by rfl, ?_⟩) hHeld ?_
   case refine_2 => (intro w hSw; (try dsimp only at hSw); (try (obtain ⟨s0, s1, s2, s3⟩ := hSw)); simp only [List.getElem_cons_zero]; go_simp <;> with_reducible rfl)
   simp only [List.getElem_cons_zero, Act.put, List.setIfInBounds_toArray, List.set_cons_zero, List.set_cons_succ]
   refine held_take 1 (v := ?_) (by simp) (by kernel_rfl) (by kernel_rfl) (by kernel_rfl) (fun _ _ _ h => h) (Or.inl ⟨by rfl, ?_⟩) hHeld ?_
   case refine_2 => (intro w hSw; (try dsimp only at hSw); (try (obtain ⟨s0, s1, s2, s3⟩ := hSw)); simp only [List.getElem_cons_zero, List.getElem_cons_succ]; go_simp <;> with_reducible rfl)
   simp only [List.getElem_cons_zero, List.getElem_cons_succ, Act.put, List.setIfInBounds_toArray, List.set_cons_zero, List.set_cons_succ]
   refine held_take 2 (v := ?_) (by simp) (by kernel_rfl) (by kernel_rfl) (by kernel_rfl) (fun _ _ _ h => h) (Or.inl ⟨by rfl, ?_⟩) hHeld ?_
   case refine_2 => (intro w hSw; (try dsimp only at hSw); (try (obtain ⟨s0, s1, s2, s3⟩ := hSw)); simp only [List.getElem_cons_zero, List.getElem_cons_succ]; go_simp <;> with_reducible rfl)
   simp only [List.getElem_cons_zero, List.getElem_cons_succ, Act.put, List.setIfInBounds_toArray, List.set_cons_zero, List.set_cons_succ]
   refine held_take 3 (v := ?_) (by simp) (by kernel_rfl) (by kernel_rfl) (by kernel_rfl) (fun _ _ _ h => h) (Or.inl ⟨by rfl, ?_⟩) hHeld ?_
   case refine_2 => (intro w hSw; (try dsimp only at hSw); (try (obtain ⟨s0, s1, s2, s3⟩ := hSw)); simp only [List.getElem_cons_zero, List.getElem_cons_succ]; go_simp <;> with_reducible rfl)
   simp only [List.getElem_cons_zero, List.getElem_cons_succ, Act.put, List.setIfInBounds_toArray, List.set_cons_zero, List.set_cons_succ]
   refine held_take 4 (v := ?_) (by simp) (by kernel_rfl) (by kernel_rfl) (by kernel_rfl) (fun _ _ _ h => h) (Or.inl ⟨by rfl, ?_⟩) hHeld ?_
   case refine_2 => (intro w hSw; (try dsimp only at hSw); (try (obtain ⟨s0, s1, s2, s3⟩ := hSw)); simp only [List.getElem_cons_zero, List.getElem_cons_succ]; go_simp <;> with_reducible rfl)
   simp only [List.getElem_cons_zero, List.getElem_cons_succ, Act.put, List.setIfInBounds_toArray, List.set_cons_zero, List.set_cons_succ]
   refine held_take 5 (v := ?_) (by simp) (by kernel_rfl) (by kernel_rfl) (by kernel_rfl) (fun _ _ _ h => h) (Or.inl ⟨by rfl, ?_⟩) hHeld ?_
   case refine_2 => (intro w hSw; (try dsimp only at hSw); (try (obtain ⟨s0, s1, s2, s3⟩ := hSw)); simp only [List.getElem_cons_zero, List.getElem_cons_succ]; go_simp <;> with_reducible rfl)
   simp only [List.getElem_cons_zero, List.getElem_cons_succ, Act.put, List.setIfInBounds_toArray, List.set_cons_zero, List.set_cons_succ]
   refine held_sole 6 (by simp) (by kernel_rfl) (fun K hK => ?_)
   simp only [List.getElem_cons_zero, List.getElem_cons_succ]
   go_simp
   go_wp2_with fail
   refine hK.out _ _ trivial (fun hHeld => ?_)
   clear hK K
   try simp only [Act.put, List.setIfInBounds_toArray, List.set_cons_zero, List.set_cons_succ]
   refine held_take 7 (v := ?_) (by simp) (by kernel_rfl) (by kernel_rfl) (by kernel_rfl) (fun _ _ _ h => h) (Or.inl ⟨by rfl, ?_⟩) hHeld ?_
   case refine_2 => (intro w hSw; (try dsimp only at hSw); (try (obtain ⟨s0, s1, s2, s3⟩ := hSw)); simp only [List.getElem_cons_zero, List.getElem_cons_succ]; go_simp <;> with_reducible rfl)
   simp only [List.getElem_cons_zero, List.getElem_cons_succ, Act.put, List.setIfInBounds_toArray, List.set_cons_zero]
   refine wpAnyH_done (by kernel_rfl) ?_ _
   go_wp2_with fail
   clear e0 e1 e2 e3 f0 f1 f2 f3 hcut h2b
   have K0' := Lib.hid (show Blk (w2.setCell ⟨w.heap.size + 1, 1, none⟩ (.int .i64 (rT b))).drew w.heap.size 29 _ from Blk.far (p := ⟨w.heap.size + 1, 1, none⟩) K0.out hg01 (.int .i64 (rT b)))
   have K1' := Lib.hid (show Blk (w2.setCell ⟨w.heap.size + 1, 1, none⟩ (.int .i64 (rT b))).drew (w.heap.size + 1) 29 #[.int .i64 (rI b), .int .i64 (rT b), .slice none 0 0, .slice none 0 0] from Blk.set_ K1.out 1 (.int .i64 (rT b)))
   have hb04 := Lib.hid ((hb03.out.setCell (p := ⟨w.heap.size + 1, 1, none⟩) (by show w.heap.size ≤ w.heap.size + 1; omega) (.int .i64 (rT b))).drew)
   have hs4 : w.heap.size + 3 ≤ (w2.setCell ⟨w.heap.size + 1, 1, none⟩ (.int .i64 (rT b))).drew.heap.size := by simp; omega
   have HT : Hid (unfold1 (takeU maxU (rB1 b)).1 = rT b) := Lib.hid rfl
   rw [HT.out]
   generalize hW4 : (w2.setCell ⟨w.heap.size + 1, 1, none⟩ (.int .i64 (rT b))).drew = W4 at K0' K1' hb04 hs4 ⊢
   clear hW4 K0 K1 K2 hb03 hs3
   have hr2 : Rd w w.heap.size (cutA A1 u2 C1) (cells (rB2 b)) := by
    have := Rd.cutA hr1 (k := u2) (cap := C1) (by rw [cells_length]; exact hu2) (by rw [cells_length]; exact hlc1)
    rw [HR2.out]
    simpa [cells, List.map_drop] using this
   have hlc2 : (rB2 b).length ≤ C1 - u2 := by rw [HR2.out, List.length_drop]; omega
   have HL2 : Hid (N - u2 = (rB2 b).length) := Lib.hid (by rw [HR2.out, List.length_drop, HL1.out])
   have hl2 : (rB2 b).length ≤ 140737488351232 := by rw [HR2.out, List.length_drop]; omega
   have hc2 : C1 - u2 ≤ 9223372036854775807 := by omega
   rw [rounds_succ]
   generalize hN : N - u2 = N2 at HL2 ⊢
   generalize hC : C1 - u2 = C2 at hlc2 hc2 ⊢
   generalize hA : cutA A1 u2 C1 = A2 at hr2 ⊢
   clear hN hC hA hr1 HL1 hlc1 hl1 hc1 hu hu2 hg01 hg21
   go_wp2_with fail
   refine (takeInts_tot A2 (rB2 b) N2 C2 HL2.out W4 ((hr2.below hb04.out).more hb04.out.size) (by omega)).mono ?_
   rintro e w5 ⟨v5, rfl, hov5, hb5⟩
   have hs5 : w.heap.size + 3 ≤ w5.heap.size := Nat.le_trans hs4 hb5.size
   have K0 := Lib.hid (K0'.out.below hb5 (by omega))
   have K1 := Lib.hid (K1'.out.below hb5 (by omega))
   have hb05 := Lib.hid (hb04.out.trans (hb5.mono (by omega)))
   have HOV5 := Lib.hid (Own.mono (base' := w.heap.size + 3) hov5 hs4)
   clear hb5 hb04 K0' K1' hs4 hov5
   have hu3 := takeZ_used (rB2 b)
   obtain ⟨u3, hu3'⟩ : ∃ u3, u3 = (takeZ (rB2 b)).2.1 := ⟨_, rfl⟩
   rw [← hu3'] at hu3 ⊢
   have hcut := fun W : World => run_cut_from (P := Tryz.prog) Tryz.underlying27 info_u8 A2 N2 C2 u3 (by rw [HL2.out]; exact hu3) (u3 : Int) rfl W
   have HR3 : Hid (rD b = (rB2 b).drop u3) := Lib.hid (by rw [hu3']; rfl)
   have hr3 : Rd w w.heap.size (cutA A2 u3 C2) (cells (rD b)) := by
    have := Rd.cutA hr2 (k := u3) (cap := C2) (by rw [cells_length]; exact hu3) (by rw [cells_length]; exact hlc2)
    rw [HR3.out]
    simpa [cells, List.map_drop] using this
   have HL3 : Hid (N2 - u3 = (rD b).length) := Lib.hid (by rw [HR3.out, List.length_drop, HL2.out])
   have hl3 : (rD b).length ≤ 140737488351232 := by rw [HR3.out, List.length_drop]; omega
   clear hu3'
   go_wp2_with fail
   refine (clone_any _ (rD b) _ _ HL3.out w5 ((hr3.below hb05.out).more hb05.out.size) hl3).mono ?_
   rintro e w6 ⟨v6, rfl, hov6, hb6⟩
   have hs6 : w.heap.size + 3 ≤ w6.heap.size := Nat.le_trans hs5 hb6.size
   replace K0 := Lib.hid (K0.out.below hb6 (by omega))
   replace K1 := Lib.hid (K1.out.below hb6 (by omega))
   have hb06 := Lib.hid (hb05.out.trans (hb6.mono (by omega)))
   have HAP : Hid (∀ k, v5.ownBlock = some k → v6.ownBlock ≠ some k) := Lib.hid fun k h1 h2 => by
    have := (HOV5.out.lt k h1).2
    have := (Own.lt hov6 k h2).1
    omega
   replace HOV5 := Lib.hid (Own.below HOV5.out hb6 (Nat.le_refl _))
   have HOV6 := Lib.hid (Own.mono (base' := w.heap.size + 3) hov6 hs5)
   clear hb6 hb05 hs5 hov6 hcut hr2 hr3 HL2 HL3 hlc2 hl2 hc2 hu3
   obtain ⟨e0, e1, e2, e3, f0, f1, f2, f3⟩ := blk4_cells K1.out
   have K0' := Lib.hid (show Blk ((w6.setCell ⟨w.heap.size + 1, 2, none⟩ v5).setCell ⟨w.heap.size + 1, 3, none⟩ v6) w.heap.size 29 _ from Blk.far (p := ⟨w.heap.size + 1, 3, none⟩) (Blk.far (p := ⟨w.heap.size + 1, 2, none⟩) K0.out (by show w.heap.size ≠ w.heap.size + 1; omega) v5) (by show w.heap.size ≠ w.heap.size + 1; omega) v6)
   have K1' := Lib.hid (show Blk ((w6.setCell ⟨w.heap.size + 1, 2, none⟩ v5).setCell ⟨w.heap.size + 1, 3, none⟩ v6) (w.heap.size + 1) 29 #[.int .i64 (rI b), .int .i64 (rT b), v5, v6] from Blk.set_ (Blk.set_ K1.out 2 v5) 3 v6)
   have hb07 := Lib.hid ((hb06.out.setCell (p := ⟨w.heap.size + 1, 2, none⟩) (by show w.heap.size ≤ w.heap.size + 1; omega) v5).setCell (p := ⟨w.heap.size + 1, 3, none⟩) (by show w.heap.size ≤ w.heap.size + 1; omega) v6)
   have hs7 : w.heap.size + 3 ≤ ((w6.setCell ⟨w.heap.size + 1, 2, none⟩ v5).setCell ⟨w.heap.size + 1, 3, none⟩ v6).heap.size := by simp; omega
   have HOV5' := Lib.hid ((Own.far HOV5.out (grown_setCell w6 (w.heap.size + 1) 2 v5) (by omega)).far (grown_setCell _ (w.heap.size + 1) 3 v6) (by omega))
   have HOV6' := Lib.hid ((Own.far HOV6.out (grown_setCell w6 (w.heap.size + 1) 2 v5) (by omega)).far (grown_setCell _ (w.heap.size + 1) 3 v6) (by omega))
   obtain ⟨A5, c5, rfl, hc5, hm5, _⟩ := is_shape HOV5.out
   obtain ⟨A6, c6, rfl, hc6, hm6, _⟩ := bs_shape HOV6.out
   go_upto_region 12 with fail
   clear e0 e1 e2 e3 f0 f1 f2 f3
   generalize hW7 : (w6.setCell ⟨w.heap.size + 1, 2, none⟩ _).setCell ⟨w.heap.size + 1, 3, none⟩ _ = W7 at K0' K1' hb07 hs7 HOV5' HOV6' ⊢
   clear hW7 K0 K1 hb06 hs6 HOV5 HOV6
   replace K0 := K0'
   replace K1 := K1'
   by_cases h3 : (takeZ (rB2 b)).2.2 = 0
   ·have H3 := Lib.hid h3
    have h3b : ((takeZ (rB2 b)).2.2 != 0) = false := by simpa using h3
    clear h3
    obtain ⟨e0, e1, e2, e3, f0, f1, f2, f3⟩ := blk4_cells K1.out
    have hzl : (rZ b).length ≤ 4096 := (takeZ_form H3.out).2.2.1
    go_wp2_with fail
    refine (may_any (rI b) (rT b) A5 A6 (rZ b) (rD b) _ c5 _ c6 W7.heap.size rfl rfl W7 (Nat.le_refl _) (own_rd HOV5'.out) (by omega) (by omega)).mono ?_
    rintro e w8 ⟨rfl, hb8⟩
    have hs8 : w.heap.size + 3 ≤ w8.heap.size := Nat.le_trans hs7 hb8.size
    replace K0 := Lib.hid (K0.out.below hb8 (by omega))
    replace K1 := Lib.hid (K1.out.below hb8 (by omega))
    have hb08 := Lib.hid (hb07.out.trans (hb8.mono (by omega)))
    have HOV5 := Lib.hid (Own.below HOV5'.out hb8 (Nat.le_refl _))
    have HOV6 := Lib.hid (Own.below HOV6'.out hb8 (Nat.le_refl _))
    clear hb8 hb07 K0' K1' HOV5' HOV6' hs7 e0 e1 e2 e3 f0 f1 f2 f3
    by_cases hm : mayB (rI b) (rT b) (rZ b) (rD b) = true
    ·have HN : Hid (readB b = true) := Lib.hid (by unfold readB; rw [H1.out, H2.out, H3.out, hm]; rfl)
     rw [hm]
     clear hm
     obtain ⟨e0, e1, e2, e3, f0, f1, f2, f3⟩ := blk4_cells K0.out
     obtain ⟨d0, d1, d2, d3, _, _, _, _⟩ := blk4_cells K1.out
     have KF := (((Blk.set_ K0.out 0 (.int .i64 (rI b))).set_ 1 (.int .i64 (rT b))).set_ 2 (.slice A5 (rZ b).length c5)).set_ 3 (.slice A6 (rD b).length c6)
     have hbF := Lib.hid ((((hb08.out.setCell (p := ⟨w.heap.size, 0, none⟩) (Nat.le_refl _) (.int .i64 (rI b))).setCell (p := ⟨w.heap.size, 1, none⟩) (Nat.le_refl _) (.int .i64 (rT b))).setCell (p := ⟨w.heap.size, 2, none⟩) (Nat.le_refl _) (.slice A5 (rZ b).length c5)).setCell (p := ⟨w.heap.size, 3, none⟩) (Nat.le_refl _) (.slice A6 (rD b).length c6))
     have HOVa := Lib.hid (Own.mono (base' := w.heap.size) ((((Own.far HOV5.out (grown_setCell w8 w.heap.size 0 (.int .i64 (rI b))) (by omega)).far (grown_setCell _ w.heap.size 1 (.int .i64 (rT b))) (by omega)).far (grown_setCell _ w.heap.size 2 (.slice A5 (rZ b).length c5)) (by omega)).far (grown_setCell _ w.heap.size 3 (.slice A6 (rD b).length c6)) (by omega)) (by omega))
     have HOVb := Lib.hid (Own.mono (base' := w.heap.size) ((((Own.far HOV6.out (grown_setCell w8 w.heap.size 0 (.int .i64 (rI b))) (by omega)).far (grown_setCell _ w.heap.size 1 (.int .i64 (rT b))) (by omega)).far (grown_setCell _ w.heap.size 2 (.slice A5 (rZ b).length c5)) (by omega)).far (grown_setCell _ w.heap.size 3 (.slice A6 (rD b).length c6)) (by omega)) (by omega))
     have HE : Hid (oE b = 0) := Lib.hid (by simp [oE, HN.out])
     have HO : Hid (oI b = rI b ∧ oT b = rT b ∧ oZ b = rZ b ∧ oD b = rD b) := Lib.hid (by simp [oI, oT, oZ, oD, HN.out])
     replace KF := Lib.hid KF
     clear K0 K1 HOV5 HOV6
     go_wp2_with fail
     refine bodyPost_ret (results_snap (fn := Tryz.f12) rfl _ _ w.heap.size _ _ _ _ rfl KF.out) rfl ?_
     refine ⟨_, by rw [HE.out]; rfl, ?_, hbF.out⟩
     obtain ⟨o1, o2, o3, o4⟩ := HO.out
     rw [o1, o2, o3, o4]
     exact ⟨_, _, rfl, HOVa.out, HOVb.out, HAP.out⟩
    ·have hm' : mayB (rI b) (rT b) (rZ b) (rD b) = false := by simpa using hm
     have HN : Hid (readB b = false) := Lib.hid (by unfold readB; rw [hm', Bool.and_false])
     rw [hm']
     clear hm hm'
     obtain ⟨e0, e1, e2, e3, f0, f1, f2, f3⟩ := blk4_cells K0.out
     have KF := (((Blk.set_ K0.out 0 (.int .i64 0)).set_ 1 (.int .i64 0)).set_ 2 (.slice none 0 0)).set_ 3 (.slice none 0 0)
     have hbF := Lib.hid ((((hb08.out.setCell (p := ⟨w.heap.size, 0, none⟩) (Nat.le_refl _) (.int .i64 0)).setCell (p := ⟨w.heap.size, 1, none⟩) (Nat.le_refl _) (.int .i64 0)).setCell (p := ⟨w.heap.size, 2, none⟩) (Nat.le_refl _) (.slice none 0 0)).setCell (p := ⟨w.heap.size, 3, none⟩) (Nat.le_refl _) (.slice none 0 0))
     have HE : Hid (oE b = 4) := Lib.hid (by simp [oE, HN.out])
     replace KF := Lib.hid KF
     clear K0 K1
     go_wp2_with fail
     refine bodyPost_ret (results_snap (fn := Tryz.f12) rfl _ _ w.heap.size _ _ _ _ rfl KF.out) rfl ?_
     exact ⟨_, by rw [HE.out]; rfl, snapR_none HN.out, hbF.out⟩
   ·have h3b : ((takeZ (rB2 b)).2.2 != 0) = true := by simpa using h3
    have HN : Hid (readB b = false) := Lib.hid (by unfold readB; rw [decide_eq_false h3, Bool.and_false]; rfl)
    clear h3
    obtain ⟨e0, e1, e2, e3, f0, f1, f2, f3⟩ := blk4_cells K0.out
    have KF := (((Blk.set_ K0.out 0 (.int .i64 0)).set_ 1 (.int .i64 0)).set_ 2 (.slice none 0 0)).set_ 3 (.slice none 0 0)
    have hbF := Lib.hid ((((hb07.out.setCell (p := ⟨w.heap.size, 0, none⟩) (Nat.le_refl _) (.int .i64 0)).setCell (p := ⟨w.heap.size, 1, none⟩) (Nat.le_refl _) (.int .i64 0)).setCell (p := ⟨w.heap.size, 2, none⟩) (Nat.le_refl _) (.slice none 0 0)).setCell (p := ⟨w.heap.size, 3, none⟩) (Nat.le_refl _) (.slice none 0 0))
    have HE : Hid (oE b = 4) := Lib.hid (by simp [oE, HN.out])
    replace KF := Lib.hid KF
    clear K0 K1
    go_wp2_with fail
    refine bodyPost_ret (results_snap (fn := Tryz.f12) rfl _ _ w.heap.size _ _ _ _ rfl KF.out) rfl ?_
    exact ⟨_, by rw [HE.out]; rfl, snapR_none HN.out, hbF.out⟩
  ·have h2b : ((takeU maxU (rB1 b)).2.2 != 0) = true := by simpa using h2
   have HN : Hid (readB b = false) := Lib.hid (by unfold readB; rw [decide_eq_false h2, Bool.and_false]; rfl)
   clear h2
   obtain ⟨e0, e1, e2, e3, f0, f1, f2, f3⟩ := blk4_cells K0.out
   have KF := (((Blk.set_ K0.out 0 (.int .i64 0)).set_ 1 (.int .i64 0)).set_ 2 (.slice none 0 0)).set_ 3 (.slice none 0 0)
   have hbF := Lib.hid ((((hb03.out.setCell (p := ⟨w.heap.size, 0, none⟩) (Nat.le_refl _) (.int .i64 0)).setCell (p := ⟨w.heap.size, 1, none⟩) (Nat.le_refl _) (.int .i64 0)).setCell (p := ⟨w.heap.size, 2, none⟩) (Nat.le_refl _) (.slice none 0 0)).setCell (p := ⟨w.heap.size, 3, none⟩) (Nat.le_refl _) (.slice none 0 0))
   have HE : Hid (oE b = 4) := Lib.hid (by simp [oE, HN.out])
   replace KF := Lib.hid KF
   clear K0 K1 K2
   go_wp2_with fail
   refine bodyPost_ret (results_snap (fn := Tryz.f12) rfl _ _ w.heap.size _ _ _ _ rfl KF.out) rfl ?_
   exact ⟨_, by rw [HE.out]; rfl, snapR_none HN.out, hbF.out⟩
 ·have h1b : ((takeU maxU b).2.2 != 0) = true := by simpa using h1
  have HN : Hid (readB b = false) := Lib.hid (by unfold readB; rw [decide_eq_false h1]; rfl)
  clear h1
  obtain ⟨e0, e1, e2, e3, f0, f1, f2, f3⟩ := blk4_cells K0.out
  have KF := (((Blk.set_ K0.out 0 (.int .i64 0)).set_ 1 (.int .i64 0)).set_ 2 (.slice none 0 0)).set_ 3 (.slice none 0 0)
  have hbF := Lib.hid ((((hb01.out.setCell (p := ⟨w.heap.size, 0, none⟩) (Nat.le_refl _) (.int .i64 0)).setCell (p := ⟨w.heap.size, 1, none⟩) (Nat.le_refl _) (.int .i64 0)).setCell (p := ⟨w.heap.size, 2, none⟩) (Nat.le_refl _) (.slice none 0 0)).setCell (p := ⟨w.heap.size, 3, none⟩) (Nat.le_refl _) (.slice none 0 0))
  obtain ⟨g0, g1, g2, g3, _, _, _, _⟩ := blk4_cells KF
  have HE : Hid (oE b = 4) := Lib.hid (by simp [oE, HN.out])
  replace KF := Lib.hid KF
  clear g0 g1 g2 g3 K0 K1 K2
  go_wp2_with fail
  refine bodyPost_ret (results_snap (fn := Tryz.f12) rfl _ _ w.heap.size _ _ _ _ rfl KF.out) rfl ?_
  exact ⟨_, by rw [HE.out]; rfl, snapR_none HN.out, hbF.out⟩
end Go.Proofs.YteehkcpokgeipaaGreatDoor
set_option linter.unusedVariables false
namespace Go.Proofs.YteehkcpokgeipaaGreatDoor
open Go.RowKit Oct
theorem rtakeInts_tot (A : Option Addr) (l : List UInt8) (n c : Nat) (hn : n = l.length) (w : World) (hr : Rd w w.heap.size A (cells l)) (hlc : l.length ≤ c) (hl : l.length ≤ 4611686018427387904) :
  Calls Tryz.prog 161 #[.slice A n c] w fun e w' => ∃ v, e = .returned (.tuple #[v, .int .i64 (takeZ l).2.1, .int .i64 (takeZ l).2.2]) ∧ Is w' w.heap.size v (takeZ l).1 ∧ Below w.heap.size w w' := by
 subst hn
 exact rtakeInts_any A l c w hr hlc hl
set_option maxHeartbeats 4000000 in
set_option maxRecDepth 100000 in
theorem rread_any (A : Option Addr) (b : List UInt8) (n c : Nat) (hn : n = b.length) (w : World) (hr : Rd w w.heap.size A (cells b)) (hlc : b.length ≤ c) (hl : b.length ≤ 140737488351232) (hc : c ≤ 9223372036854775807) :
  Calls Tryz.prog 125 #[.slice A n c] w fun e w' => ∃ V, e = .returned (.tuple #[V, .int .i64 (oE b)]) ∧ SnapR w' w.heap.size V (oI b) (oT b) (oZ b) (oD b) ∧ Below w.heap.size w w' := by
 subst hn
 have K0 := Lib.hid (Blk.new w 29 #[.int .i64 0, .int .i64 0, .slice none 0 0, .slice none 0 0])
 have hb0 := Lib.hid ((Below.refl w.heap.size w).alloc (Nat.le_refl _) (.cells #[.int .i64 0, .int .i64 0, .slice none 0 0, .slice none 0 0] 29))
 have hs0 : w.heap.size + 1 ≤ (w.alloc (.cells #[.int .i64 0, .int .i64 0, .slice none 0 0, .slice none 0 0] 29)).heap.size := by simp
 have hu := takeU_used maxU b
 have hu2 := takeU_used maxU (rB1 b)
 have hu3 := takeZ_used (rB2 b)
 have hI : Hid (unfold1 (takeU maxU b).1 = rI b) := Lib.hid rfl
 have hT : Hid (unfold1 (takeU maxU (rB1 b)).1 = rT b) := Lib.hid rfl
 obtain ⟨u, hu'⟩ : ∃ u, u = (takeU maxU b).2.1 := ⟨_, rfl⟩
 obtain ⟨u2, hu2'⟩ : ∃ u2, u2 = (takeU maxU (rB1 b)).2.1 := ⟨_, rfl⟩
 obtain ⟨u3, hu3'⟩ : ∃ u3, u3 = (takeZ (rB2 b)).2.1 := ⟨_, rfl⟩
 have HR1 : Hid (rB1 b = b.drop u) := Lib.hid (by rw [hu']; rfl)
 have HR2 : Hid (rB2 b = b.drop (u + u2)) := Lib.hid (by rw [← List.drop_drop, ← HR1.out, hu2']; rfl)
 have HR3 : Hid (rD b = b.drop (u + u2 + u3)) := Lib.hid (by rw [← List.drop_drop, ← HR2.out, hu3']; rfl)
 rw [← hu'] at hu
 rw [← hu2', HR1.out, List.length_drop] at hu2
 rw [← hu3', HR2.out, List.length_drop] at hu3
 have HU := Lib.hid hu'
 have HU2 := Lib.hid hu2'
 have HU3 := Lib.hid hu3'
 clear hu' hu2' hu3'
 have hcut1 := fun W : World => run_cut_from (P := Tryz.prog) Tryz.underlying27 info_u8 A b.length c u hu (u : Int) rfl W
 have hcut2 : ∀ W : World, (Instr.slice 27 (.slice A b.length c) (some (.int .i64 ((u : Int) + (u2 : Int)))) none none).run Tryz.prog W = .ok (.slice (cutA A (u + u2) c) (b.length - (u + u2)) (c - (u + u2))) W := fun W =>
  run_cut_from (P := Tryz.prog) Tryz.underlying27 info_u8 A b.length c (u + u2) (by omega) ((u : Int) + (u2 : Int)) (by omega) W
 have hcut3 : ∀ W : World, (Instr.slice 27 (.slice A b.length c) (some (.int .i64 ((u : Int) + (u2 : Int) + (u3 : Int)))) none none).run Tryz.prog W = .ok (.slice (cutA A (u + u2 + u3) c) (b.length - (u + u2 + u3)) (c - (u + u2 + u3))) W := fun W =>
  run_cut_from (P := Tryz.prog) Tryz.underlying27 info_u8 A b.length c (u + u2 + u3) (by omega) ((u : Int) + (u2 : Int) + (u3 : Int)) (by omega) W
 have hcutr : ∀ k, k ≤ b.length → Rd w w.heap.size (cutA A k c) (cells (b.drop k)) := fun k hk => by
  have := Rd.cutA hr (k := k) (cap := c) (by rw [cells_length]; exact hk) (by rw [cells_length]; exact hlc)
  simpa [cells, List.map_drop] using this
 have hr1 : Rd w w.heap.size (cutA A u c) (cells (rB1 b)) := by rw [HR1.out]; exact hcutr u hu
 have hr2 : Rd w w.heap.size (cutA A (u + u2) c) (cells (rB2 b)) := by rw [HR2.out]; exact hcutr _ (by omega)
 have hr3 : Rd w w.heap.size (cutA A (u + u2 + u3) c) (cells (rD b)) := by rw [HR3.out]; exact hcutr _ (by omega)
 have HL1 : Hid (b.length - u = (rB1 b).length) := Lib.hid (by rw [HR1.out, List.length_drop])
 have HL2 : Hid (b.length - (u + u2) = (rB2 b).length) := Lib.hid (by rw [HR2.out, List.length_drop])
 have HL3 : Hid (b.length - (u + u2 + u3) = (rD b).length) := Lib.hid (by rw [HR3.out, List.length_drop])
 clear hcutr
 have hadd2 : (u : Int) + (u2 : Int) ≤ 140737488351232 := by omega
 have hadd3 : (u : Int) + (u2 : Int) + (u3 : Int) ≤ 140737488351232 := by omega
 go_enter Tryz.func125, Tryz.ntmps125
 go_wp2_with fail
 refine (rtakeInt_any A b b.length c _ rfl _ (hr.below hb0.out) (by omega)).mono ?_
 rintro e w1 ⟨rfl, hw⟩
 rw [hw] at K0 hb0 hs0
 clear hw
 rw [hI.out, ← HU.out]
 by_cases h1 : (takeU maxU b).2.2 = 0
 ·have H1 := Lib.hid h1
  have h1b : ((takeU maxU b).2.2 != 0) = false := by simpa using h1
  clear h1
  go_wp2_with fail
  refine (rtakeInt_any _ (rB1 b) _ _ _ HL1.out _ (hr1.below hb0.out) (by rw [← HL1.out]; omega)).mono ?_
  rintro e w2 ⟨rfl, rfl⟩
  rw [hT.out, ← HU2.out]
  clear h1b
  by_cases h2 : (takeU maxU (rB1 b)).2.2 = 0
  ·have H2 := Lib.hid h2
   have h2b : ((takeU maxU (rB1 b)).2.2 != 0) = false := by simpa using h2
   clear h2
   go_wp2_with fail
   refine (rtakeInts_tot _ (rB2 b) _ _ HL2.out _ ((hr2.below hb0.out).more hb0.out.size) (by rw [← HL2.out]; omega) (by rw [← HL2.out]; omega)).mono ?_
   rintro e w5 ⟨v5, rfl, hov5, hb5⟩
   have hs5 : w.heap.size + 1 ≤ w5.heap.size := Nat.le_trans hs0 hb5.size
   replace K0 := Lib.hid (K0.out.below hb5 (by omega))
   have hb05 := Lib.hid (hb0.out.trans (hb5.mono (by omega)))
   have HOV5 := Lib.hid (Own.mono (base' := w.heap.size + 1) hov5 hs0)
   rw [← HU3.out]
   clear hb5 hb0 hs0 hov5 h2b
   by_cases h3 : (takeZ (rB2 b)).2.2 = 0
   ·have H3 := Lib.hid h3
    have h3b : ((takeZ (rB2 b)).2.2 != 0) = false := by simpa using h3
    have hzl : (rZ b).length ≤ 4096 := (takeZ_form H3.out).2.2.1
    clear h3
    have hN0 : Own (w5.alloc (.cells #[] 5)) w5.heap.size 5 (.slice (some ⟨w5.heap.size, 0, none⟩) 0 0) [] := own_nothing w5 w5.heap.size 5 (Nat.le_refl _)
    have hr3' : Rd (w5.alloc (.cells #[] 5)) w.heap.size (cutA A (u + u2 + u3) c) (cells (rD b)) := (hr3.below hb05.out).alloc (by omega) _
    go_wp2_with (at_builtin; refine wpList_append_any rfl (.tmp 49) (.tmp 56) 27 rfl w5.heap.size 5 (.int .u8 0) 1 Tryz.underlying27 info_u8 rfl _ _ rfl hN0 w.heap.size (cutA A (u + u2 + u3) c) _ _ _ rfl (by rw [cells_length]; exact HL3.out) hr3' (bytes_oneCell _) (by unfold maxLen; simp; omega) (by simp; omega) (by simp) ?_)
    intro v6 w6 hov6 hg6 hf6
    have hb56 : Below w5.heap.size w5 w6 := ((Below.refl _ w5).alloc (Nat.le_refl _) _).grown hg6 (by simp) (fun k hk => (hN0.lt k hk).1)
    clear hg6 hf6 hN0 hr3'
    have HAP : Hid (∀ k, v5.ownBlock = some k → v6.ownBlock ≠ some k) := Lib.hid fun k h1 h2 => by
     have := (HOV5.out.lt k h1).2
     have := (Own.lt hov6 k h2).1
     omega
    have hs6 : w.heap.size + 1 ≤ w6.heap.size := Nat.le_trans hs5 hb56.size
    replace K0 := Lib.hid (K0.out.below hb56 (by omega))
    replace HOV5 := Lib.hid (Own.below HOV5.out hb56 (Nat.le_refl _))
    have HOV6 := Lib.hid (Own.mono (base' := w.heap.size + 1) hov6 hs5)
    have hb06 := Lib.hid (hb05.out.trans (hb56.mono (by omega)))
    obtain ⟨A5, c5, rfl, hc5, hm5, _⟩ := is_shape HOV5.out
    obtain ⟨A6, c6, rfl, hc6, hm6, _⟩ := bs_shape HOV6.out
    clear hb56 hb05 hs5 hov6
    have K1 := Lib.hid (Blk.new w6 29 #[.int .i64 (rI b), .int .i64 (rT b), .slice A5 (takeZ (rB2 b)).1.length c5, .slice A6 (rD b).length c6])
    replace K0 := Lib.hid (K0.out.alloc (.cells #[.int .i64 (rI b), .int .i64 (rT b), .slice A5 (takeZ (rB2 b)).1.length c5, .slice A6 (rD b).length c6] 29))
    replace HOV5 := Lib.hid (Own.alloc HOV5.out (.cells #[.int .i64 (rI b), .int .i64 (rT b), .slice A5 (takeZ (rB2 b)).1.length c5, .slice A6 (rD b).length c6] 29))
    replace HOV6 := Lib.hid (Own.alloc HOV6.out (.cells #[.int .i64 (rI b), .int .i64 (rT b), .slice A5 (takeZ (rB2 b)).1.length c5, .slice A6 (rD b).length c6] 29))
    have hb07 := Lib.hid (hb06.out.alloc (by omega) (.cells #[.int .i64 (rI b), .int .i64 (rT b), .slice A5 (takeZ (rB2 b)).1.length c5, .slice A6 (rD b).length c6] 29))
    have hs7 : w6.heap.size + 1 ≤ (w6.alloc (.cells #[.int .i64 (rI b), .int .i64 (rT b), .slice A5 (takeZ (rB2 b)).1.length c5, .slice A6 (rD b).length c6] 29)).heap.size := by simp
    have hl3 : (rD b).length ≤ 140737488351232 := by rw [HR3.out, List.length_drop]; omega
    go_wp2_with fail
    generalize hW7 : w6.alloc _ = W7 at K0 K1 hb07 hs7 HOV5 HOV6 ⊢
    clear hW7 hb06
    refine (rmay_any (rI b) (rT b) A5 A6 (rZ b) (rD b) _ c5 _ c6 W7.heap.size rfl rfl W7 (Nat.le_refl _) (own_rd HOV5.out) (by omega) (by omega)).mono ?_
    rintro e w8 ⟨rfl, hb8⟩
    have hs8 : w6.heap.size + 1 ≤ w8.heap.size := Nat.le_trans hs7 hb8.size
    replace K0 := Lib.hid (K0.out.below hb8 (by omega))
    replace K1 := Lib.hid (K1.out.below hb8 (by omega))
    have hb08 := Lib.hid (hb07.out.trans (hb8.mono (by omega)))
    replace HOV5 := Lib.hid (Own.below HOV5.out hb8 (Nat.le_refl _))
    replace HOV6 := Lib.hid (Own.below HOV6.out hb8 (Nat.le_refl _))
    clear hb8 hb07 hs7
    by_cases hm : mayB (rI b) (rT b) (rZ b) (rD b) = true
    ·have HN : Hid (readB b = true) := Lib.hid (by unfold readB; rw [H1.out, H2.out, H3.out, hm]; rfl)
     rw [hm]
     clear hm
     obtain ⟨e0, e1, e2, e3, f0, f1, f2, f3⟩ := blk4_cells K0.out
     obtain ⟨d0, d1, d2, d3, _, _, _, _⟩ := blk4_cells K1.out
     have KF := (((Blk.set_ K0.out 0 (.int .i64 (rI b))).set_ 1 (.int .i64 (rT b))).set_ 2 (.slice A5 (rZ b).length c5)).set_ 3 (.slice A6 (rD b).length c6)
     have hbF := Lib.hid ((((hb08.out.setCell (p := ⟨w.heap.size, 0, none⟩) (Nat.le_refl _) (.int .i64 (rI b))).setCell (p := ⟨w.heap.size, 1, none⟩) (Nat.le_refl _) (.int .i64 (rT b))).setCell (p := ⟨w.heap.size, 2, none⟩) (Nat.le_refl _) (.slice A5 (rZ b).length c5)).setCell (p := ⟨w.heap.size, 3, none⟩) (Nat.le_refl _) (.slice A6 (rD b).length c6))
     have HOVa := Lib.hid (Own.mono (base' := w.heap.size) ((((Own.far HOV5.out (grown_setCell w8 w.heap.size 0 (.int .i64 (rI b))) (by omega)).far (grown_setCell _ w.heap.size 1 (.int .i64 (rT b))) (by omega)).far (grown_setCell _ w.heap.size 2 (.slice A5 (rZ b).length c5)) (by omega)).far (grown_setCell _ w.heap.size 3 (.slice A6 (rD b).length c6)) (by omega)) (by omega))
     have HOVb := Lib.hid (Own.mono (base' := w.heap.size) ((((Own.far HOV6.out (grown_setCell w8 w.heap.size 0 (.int .i64 (rI b))) (by omega)).far (grown_setCell _ w.heap.size 1 (.int .i64 (rT b))) (by omega)).far (grown_setCell _ w.heap.size 2 (.slice A5 (rZ b).length c5)) (by omega)).far (grown_setCell _ w.heap.size 3 (.slice A6 (rD b).length c6)) (by omega)) (by omega))
     have HE : Hid (oE b = 0) := Lib.hid (by simp [oE, HN.out])
     have HO : Hid (oI b = rI b ∧ oT b = rT b ∧ oZ b = rZ b ∧ oD b = rD b) := Lib.hid (by simp [oI, oT, oZ, oD, HN.out])
     replace KF := Lib.hid KF
     clear K0 K1 HOV5 HOV6
     go_wp2_with fail
     refine bodyPost_ret (results_snap (fn := Tryz.f125) rfl _ _ w.heap.size _ _ _ _ rfl KF.out) rfl ?_
     refine ⟨_, by rw [HE.out]; rfl, ?_, hbF.out⟩
     obtain ⟨o1, o2, o3, o4⟩ := HO.out
     rw [o1, o2, o3, o4]
     exact ⟨_, _, rfl, HOVa.out, HOVb.out, HAP.out⟩
    ·have hm' : mayB (rI b) (rT b) (rZ b) (rD b) = false := by simpa using hm
     have HN : Hid (readB b = false) := Lib.hid (by unfold readB; rw [hm', Bool.and_false])
     rw [hm']
     clear hm hm'
     obtain ⟨e0, e1, e2, e3, f0, f1, f2, f3⟩ := blk4_cells K0.out
     have KF := (((Blk.set_ K0.out 0 (.int .i64 0)).set_ 1 (.int .i64 0)).set_ 2 (.slice none 0 0)).set_ 3 (.slice none 0 0)
     have hbF := Lib.hid ((((hb08.out.setCell (p := ⟨w.heap.size, 0, none⟩) (Nat.le_refl _) (.int .i64 0)).setCell (p := ⟨w.heap.size, 1, none⟩) (Nat.le_refl _) (.int .i64 0)).setCell (p := ⟨w.heap.size, 2, none⟩) (Nat.le_refl _) (.slice none 0 0)).setCell (p := ⟨w.heap.size, 3, none⟩) (Nat.le_refl _) (.slice none 0 0))
     have HE : Hid (oE b = 4) := Lib.hid (by simp [oE, HN.out])
     replace KF := Lib.hid KF
     clear K0
     go_wp2_with fail
     refine bodyPost_ret (results_snap (fn := Tryz.f125) rfl _ _ w.heap.size _ _ _ _ rfl KF.out) rfl ?_
     exact ⟨_, by rw [HE.out]; rfl, snapR_none HN.out, hbF.out⟩
   ·have h3b : ((takeZ (rB2 b)).2.2 != 0) = true := by simpa using h3
    have HN : Hid (readB b = false) := Lib.hid (by unfold readB; rw [decide_eq_false h3, Bool.and_false]; rfl)
    clear h3
    obtain ⟨e0, e1, e2, e3, f0, f1, f2, f3⟩ := blk4_cells K0.out
    have KF := (((Blk.set_ K0.out 0 (.int .i64 0)).set_ 1 (.int .i64 0)).set_ 2 (.slice none 0 0)).set_ 3 (.slice none 0 0)
    have hbF := Lib.hid ((((hb05.out.setCell (p := ⟨w.heap.size, 0, none⟩) (Nat.le_refl _) (.int .i64 0)).setCell (p := ⟨w.heap.size, 1, none⟩) (Nat.le_refl _) (.int .i64 0)).setCell (p := ⟨w.heap.size, 2, none⟩) (Nat.le_refl _) (.slice none 0 0)).setCell (p := ⟨w.heap.size, 3, none⟩) (Nat.le_refl _) (.slice none 0 0))
    have HE : Hid (oE b = 4) := Lib.hid (by simp [oE, HN.out])
    replace KF := Lib.hid KF
    clear K0
    go_wp2_with fail
    refine bodyPost_ret (results_snap (fn := Tryz.f125) rfl _ _ w.heap.size _ _ _ _ rfl KF.out) rfl ?_
    exact ⟨_, by rw [HE.out]; rfl, snapR_none HN.out, hbF.out⟩
  ·have h2b : ((takeU maxU (rB1 b)).2.2 != 0) = true := by simpa using h2
   have HN : Hid (readB b = false) := Lib.hid (by unfold readB; rw [decide_eq_false h2, Bool.and_false]; rfl)
   clear h2
   obtain ⟨e0, e1, e2, e3, f0, f1, f2, f3⟩ := blk4_cells K0.out
   have KF := (((Blk.set_ K0.out 0 (.int .i64 0)).set_ 1 (.int .i64 0)).set_ 2 (.slice none 0 0)).set_ 3 (.slice none 0 0)
   have hbF := Lib.hid ((((hb0.out.setCell (p := ⟨w.heap.size, 0, none⟩) (Nat.le_refl _) (.int .i64 0)).setCell (p := ⟨w.heap.size, 1, none⟩) (Nat.le_refl _) (.int .i64 0)).setCell (p := ⟨w.heap.size, 2, none⟩) (Nat.le_refl _) (.slice none 0 0)).setCell (p := ⟨w.heap.size, 3, none⟩) (Nat.le_refl _) (.slice none 0 0))
   have HE : Hid (oE b = 4) := Lib.hid (by simp [oE, HN.out])
   replace KF := Lib.hid KF
   clear K0
   go_wp2_with fail
   refine bodyPost_ret (results_snap (fn := Tryz.f125) rfl _ _ w.heap.size _ _ _ _ rfl KF.out) rfl ?_
   exact ⟨_, by rw [HE.out]; rfl, snapR_none HN.out, hbF.out⟩
 ·have h1b : ((takeU maxU b).2.2 != 0) = true := by simpa using h1
  have HN : Hid (readB b = false) := Lib.hid (by unfold readB; rw [decide_eq_false h1]; rfl)
  clear h1
  obtain ⟨e0, e1, e2, e3, f0, f1, f2, f3⟩ := blk4_cells K0.out
  have KF := (((Blk.set_ K0.out 0 (.int .i64 0)).set_ 1 (.int .i64 0)).set_ 2 (.slice none 0 0)).set_ 3 (.slice none 0 0)
  have hbF := Lib.hid ((((hb0.out.setCell (p := ⟨w.heap.size, 0, none⟩) (Nat.le_refl _) (.int .i64 0)).setCell (p := ⟨w.heap.size, 1, none⟩) (Nat.le_refl _) (.int .i64 0)).setCell (p := ⟨w.heap.size, 2, none⟩) (Nat.le_refl _) (.slice none 0 0)).setCell (p := ⟨w.heap.size, 3, none⟩) (Nat.le_refl _) (.slice none 0 0))
  have HE : Hid (oE b = 4) := Lib.hid (by simp [oE, HN.out])
  replace KF := Lib.hid KF
  clear K0
  go_wp2_with fail
  refine bodyPost_ret (results_snap (fn := Tryz.f125) rfl _ _ w.heap.size _ _ _ _ rfl KF.out) rfl ?_
  exact ⟨_, by rw [HE.out]; rfl, snapR_none HN.out, hbF.out⟩
end Go.Proofs.YteehkcpokgeipaaGreatDoor
set_option linter.unusedVariables false
namespace Go.Proofs.YteehkcpokgeipaaGreatDoor
open Go.RowKit Oct
set_option maxHeartbeats 1000000 in
set_option maxRecDepth 100000 in
theorem snapSame_any (i t : Int) (z : List Int) (l : List UInt8) (Av Ad Bv Bd : Option Addr) (nv cv nd cd mv ev md ed K : Nat) (hnv : nv = z.length) (hnd : nd = l.length) (hmv : mv = z.length) (hmd : md = l.length) (w : World) (hK : K ≤ w.heap.size)
  (ha : Rd w K Av (z.map (Value.int .i64))) (ha2 : Rd w K Ad (cells l)) (hb : Rd w K Bv (z.map (Value.int .i64))) (hb2 : Rd w K Bd (cells l)) (hz : z.length ≤ 4611686018427387904) :
  Calls Tryz.prog 35 #[snapV i t Av nv cv Ad nd cd, snapV i t Bv mv ev Bd md ed] w fun e w' => e = .returned (.bool true) ∧ Below w.heap.size w w' := by
 subst hnv; subst hnd
 rw [hmv, hmd]
 unfold snapV
 have hb0 := Lib.hid (((Below.refl w.heap.size w).alloc (Nat.le_refl _) (Obj.cells #[.int .i64 i, .int .i64 t, .slice Av z.length cv, .slice Ad l.length cd] 29)).alloc (by simp) (Obj.cells #[.int .i64 i, .int .i64 t, .slice Bv z.length ev, .slice Bd l.length ed] 29))
 have hS1 := Lib.hid ((snapAt_new w i t (.slice Av z.length cv) (.slice Ad l.length cd)).below ((Below.refl _ _).alloc (Nat.le_refl _) (Obj.cells #[.int .i64 i, .int .i64 t, .slice Bv z.length ev, .slice Bd l.length ed] 29)) (by simp))
 have hS2 := snapAt_new (w.alloc (Obj.cells #[.int .i64 i, .int .i64 t, .slice Av z.length cv, .slice Ad l.length cd] 29)) i t (.slice Bv z.length ev) (.slice Bd l.length ed)
 rw [show (w.alloc (Obj.cells #[.int .i64 i, .int .i64 t, .slice Av z.length cv, .slice Ad l.length cd] 29)).heap.size = w.heap.size + 1 by simp] at hS2
 have HS2 := Lib.hid hS2
 have hsz : ((w.alloc (Obj.cells #[.int .i64 i, .int .i64 t, .slice Av z.length cv, .slice Ad l.length cd] 29)).alloc (Obj.cells #[.int .i64 i, .int .i64 t, .slice Bv z.length ev, .slice Bd l.length ed] 29)).heap.size = w.heap.size + 1 + 1 := by simp
 have HZ := Lib.hid hsz
 clear hS2 hsz
 go_enter Tryz.func35, Tryz.ntmps35
 go_wp2_with fail
 refine (same_any Av Bv z z cv ev w.heap.size _ ((ha.more hK).below hb0.out) ((hb.more hK).below hb0.out) hz hz).mono ?_
 rintro e w1 ⟨rfl, hb1⟩
 rw [HZ.out] at hb1
 have hA := Lib.hid (hS1.out.below hb1 (by omega))
 have hB := Lib.hid (HS2.out.below hb1 (by omega))
 have hb01 := Lib.hid (hb0.out.trans (hb1.mono (by omega)))
 rw [show decide (z = z) = true from decide_eq_true rfl]
 have k1 := str_of cd ((ha2.more hK).below hb01.out)
 have k2 := str_of ed ((hb2.more hK).below hb01.out)
 obtain ⟨a0, a1, a2, a3⟩ := hA.out
 obtain ⟨c0, c1, c2, c3⟩ := hB.out
 clear hb1 hb0 hS1 HS2 HZ ha ha2 hb hb2
 go_wp2_with fail
 go_ret
 exact ⟨rfl, hb01.out⟩
end Go.Proofs.YteehkcpokgeipaaGreatDoor
set_option linter.unusedVariables false
namespace Go.Proofs.YteehkcpokgeipaaGreatDoor
open Go.RowKit Oct
set_option maxRecDepth 100000 in
theorem results_snap1 {fn : Func} (h : fn.results = #[.cell 2 29]) (tmps : Array Value) (W : World) (g : Nat) (a b c d : Value) (hp : tmps[2]?.getD undef = .pointer (some ⟨g, 0, none⟩)) (hB : Blk W g 29 #[a, b, c, d]) :
  (results fn tmps).run Tryz.prog W = .ok (.agg #[a, b, c, d]) W := by
 obtain ⟨e0, e1, e2, e3, f0, f1, f2, f3⟩ := blk4_cells hB
 simp [results, h, go_sem, hp, e0, e1, e2, e3]
end Go.Proofs.YteehkcpokgeipaaGreatDoor
set_option linter.unusedVariables false
namespace Go.Proofs.YteehkcpokgeipaaGreatDoor
open Go.RowKit Oct
structure But (x y : Value) (w w' : World) : Prop where
 os : w'.os = w.os
 tape : w'.tape = w.tape
 output : w'.output = w.output
 size : w.heap.size ≤ w'.heap.size
 block : ∀ k, k < w.heap.size → x.ownBlock ≠ some k → y.ownBlock ≠ some k → w'.heap[k]? = w.heap[k]?
theorem But.below {x y : Value} {w w' : World} (h : But x y w w') {base : Nat} (hB : base ≤ w.heap.size) (h1 : ∀ k, x.ownBlock = some k → base ≤ k) (h2 : ∀ k, y.ownBlock = some k → base ≤ k) : Below base w w' :=
 ⟨h.os, h.tape, h.output, h.size, fun k hk => h.block k (by omega) (fun e => by have := h1 k e; omega) (fun e => by have := h2 k e; omega)⟩
theorem But.set {x y : Value} {w w' : World} (h : But x y w w') {g : Nat} (hg : x.ownBlock = some g) (q : Nat) (u : Value) : But x y w (w'.setCell ⟨g, q, none⟩ u) :=
 ⟨h.os, h.tape, h.output, by simp [World.setCell, h.size], fun k hk h1 h2 => (Below.heap_setCell _ _ _ _ (by rintro rfl; exact h1 hg)).trans (h.block k hk h1 h2)⟩
theorem IBlk.keep0 {w w' : World} {A : Option Addr} {cap : Nat} {cur : List Value} (h : IBlk w A cap cur) (hk : ∀ g, A = some ⟨g, 0, none⟩ → 0 < cap → w'.heap[g]? = w.heap[g]?) : IBlk w' A cap cur := by
 refine ⟨h.1, fun h0 => ?_⟩
 obtain ⟨g', rfl, hb⟩ := h.2 h0
 exact ⟨g', rfl, (hk g' rfl h0).trans hb⟩
set_option maxHeartbeats 2000000 in
set_option maxRecDepth 100000 in
theorem over_any (i t : Int) (Ax : Option Addr) (n cx : Nat) (cur : List Value) (Ay : Option Addr) (m cy : Nat) (w : World) (base : Nat) (hx : IBlk w Ax cx cur) (hn : n ≤ cx) (hcx : cx ≤ 9223372036854775807) (hy : RowOk w base (.slice Ay m cy))
  (hne : ∀ k, (Value.slice Ax n cx).ownBlock = some k → (Value.slice Ay m cy).ownBlock ≠ some k) :
  Calls Tryz.prog 36 #[.agg #[.int .i64 i, .int .i64 t, .slice Ax n cx, .slice Ay m cy]] w fun e w' => e = .returned (.tuple #[]) ∧ But (.slice Ax n cx) (.slice Ay m cy) w w' := by
 have hlt := Lib.hid hy.lt
 have hxl : Hid (∀ g, Ax = some ⟨g, 0, none⟩ → 0 < cx → g < w.heap.size) := Lib.hid fun g h h0 => by
  obtain ⟨g', h', hb⟩ := hx.2 h0
  rw [h] at h'
  injection h' with h'
  injection h' with h'
  rw [h']; exact hb.lt
 have K0 := Lib.hid ((Blk.new w 29 #[.int .i64 i, .int .i64 t, .slice Ax n cx, .slice Ay m cy]).alloc (.cells #[.slice Ay m cy] 27))
 have hsz : (w.alloc (.cells #[.int .i64 i, .int .i64 t, .slice Ax n cx, .slice Ay m cy] 29)).heap.size = w.heap.size + 1 := by simp
 have hrd := rd_lit (w.alloc (.cells #[.int .i64 i, .int .i64 t, .slice Ax n cx, .slice Ay m cy] 29)) 27 [.slice Ay m cy]
 rw [hsz] at hrd
 have hok : RowOk ((w.alloc (.cells #[.int .i64 i, .int .i64 t, .slice Ax n cx, .slice Ay m cy] 29)).alloc (.cells #[.slice Ay m cy] 27)) base (.slice Ay m cy) := (hy.alloc _).alloc _
 have hown := Lib.hid (owned_any (some ⟨w.heap.size + 1, 0, none⟩) [.slice Ay m cy] 1 1 (w.heap.size + 2) base rfl _ hrd (by intro v hv; obtain rfl := List.mem_singleton.1 hv; exact hok)
  (fun a b ha hb hab => absurd (by have h1 : a < 1 := ha; have h2 : b < 1 := hb; omega) hab) (by rintro ad had v hv; obtain rfl := List.mem_singleton.1 hv; injection had with had; subst had; intro h; have h2 : w.heap.size + 1 < w.heap.size := hlt.out _ h; omega) (by simp))
 have hX0 := Lib.hid ((hx.keep0 (w' := (w.alloc (.cells #[.int .i64 i, .int .i64 t, .slice Ax n cx, .slice Ay m cy] 29)).alloc (.cells #[.slice Ay m cy] 27)) (fun g hg h0 => by have := hxl.out g hg h0; exact (Below.heap_alloc _ _ _ (by rw [hsz]; omega)).trans (Below.heap_alloc _ _ _ this))))
 have hb0 := Lib.hid (((Below.refl w.heap.size w).alloc (Nat.le_refl _) (.cells #[.int .i64 i, .int .i64 t, .slice Ax n cx, .slice Ay m cy] 29)).alloc (by rw [hsz]; omega) (.cells #[.slice Ay m cy] 27))
 clear hrd hok hsz
 go_enter Tryz.func36, Tryz.ntmps36
 go_wp2_with fail
 refine hown.out.mono ?_
 rintro e w1 ⟨rfl, ho, _⟩
 have hK1 : Blk w1 w.heap.size 29 #[.int .i64 i, .int .i64 t, .slice Ax n cx, .slice Ay m cy] := (ho.block _ (by intro v hv h; obtain rfl := List.mem_singleton.1 hv; have := hlt.out _ h; omega)).trans K0.out
 have hX1 : IBlk w1 Ax cx cur := hX0.out.keep0 fun g hg h0 => ho.block g (by intro v hv h; obtain rfl := List.mem_singleton.1 hv; exact hne g (by rw [hg]; rfl) h)
 have hB1 : But (.slice Ax n cx) (.slice Ay m cy) w w1 := ⟨ho.os.trans hb0.out.os, ho.tape.trans hb0.out.tape, ho.output.trans hb0.out.output, by rw [ho.size]; exact hb0.out.size, fun k hk h1 h2 => (ho.block k (by intro v hv; obtain rfl := List.mem_singleton.1 hv; exact h2)).trans (hb0.out.block k hk)⟩
 have hl1 := Lib.hid hx.1
 clear ho hown K0 hX0 hb0 hx hy hne
 go_wp2_with fail
 go_loopw [2] (fun i' wr => ∃ q : Nat, q ≤ n ∧ i' = .int .i64 q ∧ IBlk wr Ax cx (List.replicate q (.int .i64 (-7)) ++ cur.drop q) ∧ Hid (Blk wr w.heap.size 29 #[.int .i64 i, .int .i64 t, .slice Ax n cx, .slice Ay m cy]) ∧ But (.slice Ax n cx) (.slice Ay m cy) w wr) (fun i' _ => n - (intOf i').toNat)
 case atStart => exact ⟨0, by omega, rfl, by simpa using hX1, Lib.hid hK1, hB1⟩
 case round =>
  clear hX1 hK1 hB1
  obtain ⟨q, hq, rfl, hi1, hK, hB⟩ := hrel
  have c2 : wr.cell? ⟨w.heap.size, 2, none⟩ = some (.slice Ax n cx) := hK.out.cell 2
  by_cases hlq : q < n
  ·obtain ⟨g, rfl, hblk⟩ := hi1.2 (by omega)
   have hcq : ∃ u, wr.cell? ⟨g, q, none⟩ = some u := by
    rw [hblk.cell]
    exact ⟨_, Array.getElem?_eq_getElem (by have := hl1.out; simp; omega)⟩
   obtain ⟨u, hcq⟩ := hcq
   have hfq := hblk.frozen q
   have hg := hxl.out g rfl (by omega)
   have r1 := IBlk.set hblk hl1.out (by omega : q < cx)
   have r2 := Lib.hid (hK.out.far (p := ⟨g, q, none⟩) (by show w.heap.size ≠ g; omega) (.int .i64 (-7)))
   have r3 := hB.set (g := g) rfl q (.int .i64 (-7))
   have hqI : (q : Int) < n := by omega
   clear hi1 hB hblk hK
   go_wp2
   go_roundw
   case rel => exact ⟨q + 1, by omega, by go_num, r1, r2, r3⟩
   case measure => simp [intOf]; omega
  ·obtain rfl : q = n := by omega
   go_wp2_with fail
   go_end0
   exact ⟨rfl, hB⟩
end Go.Proofs.YteehkcpokgeipaaGreatDoor
set_option linter.unusedVariables false
namespace Go.Proofs.YteehkcpokgeipaaGreatDoor
open Go.RowKit Oct
theorem But.after {x y : Value} {w w1 w2 : World} (hb : Below w.heap.size w w1) (h : But x y w1 w2) : But x y w w2 :=
 ⟨h.os.trans hb.os, h.tape.trans hb.tape, h.output.trans hb.output, Nat.le_trans hb.size h.size, fun k hk h1 h2 => (h.block k (by have := hb.size; omega) h1 h2).trans (hb.block k hk)⟩
set_option maxHeartbeats 2000000 in
set_option maxRecDepth 100000 in
theorem snapKept_any (i t : Int) (z : List Int) (l : List UInt8) (Ax : Option Addr) (nx cx g : Nat) (Bv Bd : Option Addr) (mv ev md ed : Nat) (hnx : nx = z.length) (hmv : mv = z.length) (hmd : md = l.length) (w : World) (base : Nat)
  (hx : Is w base (.slice Ax nx cx) z) (hg : LentAt w g l) (hgb : base ≤ g) (hne : (Value.slice Ax nx cx).ownBlock ≠ some g)
  (hb : Rd w w.heap.size Bv (z.map (Value.int .i64))) (hb2 : Rd w w.heap.size Bd (cells l)) (hz : z.length ≤ 4611686018427387904) (hl : l.length ≤ 140737488351232) :
  Calls Tryz.prog 32 #[.agg #[.int .i64 i, .int .i64 t, .slice Ax nx cx, .slice (some ⟨g, 0, none⟩) l.length (l.length + 1)], snapV i t Bv mv ev Bd md ed] w fun e w' => e = .returned (.bool true) ∧ But (.slice Ax nx cx) (.slice (some ⟨g, 0, none⟩) l.length (l.length + 1)) w w' := by
 subst hnx; subst hmv; subst hmd
 unfold snapV
 have hgl := hg.lt
 have hb0 := Lib.hid (((Below.refl w.heap.size w).alloc (Nat.le_refl _) (Obj.cells #[.int .i64 i, .int .i64 t, .slice Ax z.length cx, .slice (some ⟨g, 0, none⟩) l.length (l.length + 1)] 29)).alloc (by simp) (Obj.cells #[.int .i64 i, .int .i64 t, .slice Bv z.length ev, .slice Bd l.length ed] 29))
 have hS1 := Lib.hid ((snapAt_new w i t (.slice Ax z.length cx) (.slice (some ⟨g, 0, none⟩) l.length (l.length + 1))).below ((Below.refl _ _).alloc (Nat.le_refl _) (Obj.cells #[.int .i64 i, .int .i64 t, .slice Bv z.length ev, .slice Bd l.length ed] 29)) (by simp))
 have hS2 := snapAt_new (w.alloc (Obj.cells #[.int .i64 i, .int .i64 t, .slice Ax z.length cx, .slice (some ⟨g, 0, none⟩) l.length (l.length + 1)] 29)) i t (.slice Bv z.length ev) (.slice Bd l.length ed)
 rw [show (w.alloc (Obj.cells #[.int .i64 i, .int .i64 t, .slice Ax z.length cx, .slice (some ⟨g, 0, none⟩) l.length (l.length + 1)] 29)).heap.size = w.heap.size + 1 by simp] at hS2
 have HS2 := Lib.hid hS2
 have hsz : ((w.alloc (Obj.cells #[.int .i64 i, .int .i64 t, .slice Ax z.length cx, .slice (some ⟨g, 0, none⟩) l.length (l.length + 1)] 29)).alloc (Obj.cells #[.int .i64 i, .int .i64 t, .slice Bv z.length ev, .slice Bd l.length ed] 29)).heap.size = w.heap.size + 1 + 1 := by simp
 have HZ := Lib.hid hsz
 have hxr : Rd w w.heap.size Ax (z.map (Value.int .i64)) := own_rd hx
 clear hS2 hsz
 go_enter Tryz.func32, Tryz.ntmps32
 go_wp2_with fail
 refine (same_any Ax Bv z z cx ev w.heap.size _ (hxr.below hb0.out) (hb.below hb0.out) hz hz).mono ?_
 rintro e w1 ⟨rfl, hb1⟩
 rw [HZ.out] at hb1
 have hA := Lib.hid (hS1.out.below hb1 (by omega))
 have hB := Lib.hid (HS2.out.below hb1 (by omega))
 have hb01 := Lib.hid (hb0.out.trans (hb1.mono (by omega)))
 rw [show decide (z = z) = true from decide_eq_true rfl]
 have HX := Lib.hid (Own.below hx hb01.out (Nat.le_refl _))
 have HG := Lib.hid (hg.below hb01.out hgl)
 obtain ⟨a0, a1, a2, a3⟩ := hA.out
 obtain ⟨c0, c1, c2, c3⟩ := hB.out
 clear hb1 hb0 hS1 HS2 HZ hx hg hxr
 go_wp2_with fail
 refine (kept_any g Bd l ed w.heap.size w1 HG.out (hb2.below hb01.out) hl).mono ?_
 rintro e w2 ⟨rfl, rfl⟩
 obtain ⟨A', cap, cur, hv, hcap, hi, hbs⟩ := IBlk.of_own HX.out
 injection hv with hv1 hv2 hv3
 subst hv1; subst hv3
 have hcx : z.length ≤ cx := by
  obtain ⟨A', c', h1, h2, _⟩ := Own.shape HX.out
  injection h1 with _ _ h3
  rw [List.length_map] at h2
  omega
 have hov := Lib.hid (over_any i t Ax z.length cx cur (some ⟨g, 0, none⟩) l.length (l.length + 1) w1 base hi hcx hcap (RowOk.of_lent HG.out hgb hl) (fun k h1 h2 => hne (by rw [h1]; exact h2.symm ▸ rfl)))
 clear hi hbs
 go_wp2_with fail
 refine hov.out.mono ?_
 rintro e w3 ⟨rfl, hbut⟩
 have HB := Lib.hid (But.after hb01.out hbut)
 clear hbut hov
 go_wp2_with fail
 go_ret
 exact ⟨rfl, HB.out⟩
end Go.Proofs.YteehkcpokgeipaaGreatDoor
