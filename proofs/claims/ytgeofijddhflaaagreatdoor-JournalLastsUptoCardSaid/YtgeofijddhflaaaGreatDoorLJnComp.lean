/- journal.Compact. Condition: the journal is on a disk of a call's own, within bounds; the library's variables stand as laid. -/
import Derived.Test.YtgeofijddhflaaaGreatDoorLJnGoodU
set_option linter.unusedVariables false
set_option linter.unusedSimpArgs false
set_option maxHeartbeats 8000000
set_option maxRecDepth 100000
namespace Go.Proofs.YtgeofijddhflaaaGreatDoor
section
open Go.RowKit Go.Maps Oct
structure bE0 (w : World) (F : Nat -> Prop) (B b : Nat) (s : aB1) (rs : List aD8) (vl ve : Value) : Prop where
 blk : Blk w b 104 #[.int .i64 s.k, .int .i64 s.first, .int .i64 s.term, vl, ve]
 low : B <= b
 ents : w.ownsRow B 65 4 vl rs.length (aA7 rs)
 map : rs.map aD8.e = s.l
 dat : ∀ q ∈ rs, bB7 w F q.v q.e.b
 ends : Own w B 3 ve (s.ends.map (Value.int .i64))
section
variable {w w' : World} {F F' : Nat -> Prop} {B b : Nat} {s : aB1} {rs : List aD8} {vl ve : Value}
theorem bE0.keep (h : bE0 w F B b s rs vl ve) (hs : w.heap.size <= w'.heap.size) (hk : ∀ k, F k -> w'.heap[k]? = w.heap[k]?) {row : Option Nat} (hg : w.grownBy w' row) (hb : row ≠ some b) (hl : vl.ownBlock = none ∨ vl.ownBlock ≠ row) (he : ve.ownBlock = none ∨ ve.ownBlock ≠ row) : bE0 w' F B b s rs vl ve :=
 ⟨h.blk.grown hg (fun e => hb e.symm), h.low, World.ownsRow.kept h.ents hg hl, h.map, fun q hq => (h.dat q hq).keep hs hk, Own.kept h.ends hg he⟩
theorem bE0.below (h : bE0 w F B b s rs vl ve) (hF : ∀ k, F k -> k < w.heap.size) (hb : Below w.heap.size w w') : bE0 w' F B b s rs vl ve :=
 h.keep hb.size (fun k hk => hb.block k (hF k hk)) (aA5 hb none) (by simp) (by cases vl.ownBlock <;> simp) (by cases ve.ownBlock <;> simp)
theorem bE0.mono (h : bE0 w F B b s rs vl ve) (hF : ∀ k, F k -> F' k) : bE0 w F' B b s rs vl ve := ⟨h.blk, h.low, h.ents, h.map, fun q hq => (h.dat q hq).mono hF, h.ends⟩
theorem bE0.rd (h : bE0 w F B b s rs vl ve) (hn : bG2 s) : aT7 w (fun k => F k ∨ (B <= k ∧ k < w.heap.size)) ⟨b, 0, none⟩ s := by
 obtain ⟨A1, c1, e1, k1, k2, _⟩ := aC2 h.ents;obtain ⟨A2, c2, e2, k3, k4, _⟩ := Own.shape h.ends;have a7 : rs.length = s.l.length := by rw [<- h.map, lU]
 rw [lU] at k3 e2;subst e1 e2;refine ⟨⟨A1, c1, rs, A2, c2, fun _ => ⟨b, 0, rfl, .inr ⟨h.low, h.blk.lt⟩, h.blk.lt, fun j u hu => ?_⟩, by rw [<- a7]; exact k1, k2, k3, k4, RdF.of_row h.ents (fun k h1 h2 => .inr ⟨h1, h2⟩) (by rw [aC0]; omega), h.map, fun q hq => (h.dat q hq).mono (fun k hk => .inl hk), RdF.of_own h.ends (fun k h1 h2 => .inr ⟨h1, h2⟩)⟩, hn⟩;rw [Nat.zero_add];refine aI1 h.blk j u ?_;rw [a7];exact hu
theorem bE0.segM (h : bE0 w F B b s rs vl ve) (hn : bG2 s) (he : s.ends.length = s.l.length + 1) (hl : s.l.length <= 1099511627776) (ht : ∀ e ∈ s.l, e.b.length <= 65535) : aY4 w (fun k => F k ∨ (B <= k ∧ k < w.heap.size)) ⟨b, 0, none⟩ s := ⟨h.rd hn, he, hl, ht⟩
end
theorem aZ1 {w : World} {B B' : Nat} {e : TypeId} {size n : Nat} {v : Value} {xs : List Value} (h : w.ownsRow B e size v n xs) (hB : B' <= B) : w.ownsRow B' e size v n xs := by
 obtain ⟨h1, h2⟩ := h;refine ⟨h1, ?_⟩;rcases h2 with h2 | ⟨g, cap, a7, hv, hb, r⟩
 ·exact .inl h2
 exact .inr ⟨g, cap, a7, hv, by omega, r⟩
theorem bX8 {w : World} {F : Nat -> Prop} {rs : List aD8} (h : ∀ q ∈ rs, bB7 w F q.v q.e.b) : ∀ u ∈ aA7 rs, u.oneCell' = true := by
 intro u hu;obtain ⟨q, hq, hu⟩ := List.mem_flatMap.1 hu;obtain ⟨A, c, hv, _⟩ := h q hq;simp only [aM6, List.mem_cons, List.not_mem_nil, or_false] at hu;rcases hu with rfl | rfl | rfl | rfl
 ·rfl
 ·rfl
 ·rfl
 rw [hv]; rfl
theorem cN2 {w : World} {F : Nat -> Prop} {ad : Addr} {s : aB1} (h : aY4 w F ad s) (hF : ∀ k, F k -> k < w.heap.size) (q6 : s.l.length <= 1000000000) (ix : Int) (q9 : 0 <= ix ∧ ix <= 9223372036854775807) :
  Calls Tryz.prog 60 #[.pointer (some ad), .int .i64 ix] w fun e w' => ∃ b rs vl ve, e = .returned (.pointer (some ⟨b, 0, none⟩)) ∧ bE0 w' F w.heap.size b (s.ahead ix) rs vl ve ∧ Below w.heap.size w w' := by
 obtain ⟨b, o, Al, cl, rs, Ae, ce, rfl, o8, a7, c0, c1, c2, c3, c4, ⟨h1, h2, h3, h4⟩, h6, h7, h8, h9⟩ := h.rd.cells;have i3 := h.ends;have p7 := h.len;have o9 := h.rd.num.first;obtain ⟨k, hk⟩ : ∃ k, k = s.aheadN ix := ⟨_, rfl⟩
 have p6 : k <= s.l.length := by rw [hk]; exact Nat.min_le_right _ _
 obtain ⟨fi, i4⟩ : ∃ x, x = s.first := ⟨_, rfl⟩
 obtain ⟨sk, f9⟩ : ∃ x, x = s.k := ⟨_, rfl⟩
 obtain ⟨tm, g6⟩ : ∃ x, x = s.term := ⟨_, rfl⟩
 obtain ⟨nl, i6⟩ : ∃ x, x = s.l.length := ⟨_, rfl⟩
 obtain ⟨ne, l4⟩ : ∃ x, x = s.ends.length := ⟨_, rfl⟩
 rw [<- i4] at c1 o9;rw [<- f9] at c0;rw [<- g6] at c2;rw [<- i6] at c3 h1 p7 i3 p6 q6;rw [<- l4] at c4 h3 i3;have j9 : min (max (ix - fi) 0) (nl : Int) = (k : Int) := by
  rw [hk];unfold aB1.aheadN;rw [<- i4, <- i6];omega
 have s9 : IntKind.i64.wrap (ix - fi) = ix - fi := mH _ (by omega);have p8 : ne = nl + 1 := i3;have n7 : ((aA7 rs).take (k * 4)).length = k * 4 := by
  have m8 : rs.length = nl := by rw [i6, <- h7, lU]
  rw [lV, aC0];omega
 have m7 : RdF w F Al ((aA7 rs).take (k * 4)) := h6.take (k * 4);have m6 : RdF w F Ae ((s.ends.map (Value.int .i64)).take (k + 1)) := h9.take (k + 1);have n6 : ((s.ends.map (Value.int .i64)).take (k + 1)).length = k + 1 := by rw [lV, lU, <- l4]; omega
 have o7 := qZ m7;have n9 := qZ m6;have m4 := qZ n7;have m3 := qZ n6;have HD := qZ h8;have HM := qZ h7;have HF := qZ hF;have HK := qZ hk;have n8 := qZ (show s.ahead ix = ⟨sk, fi, tm, s.l.take k, s.ends.take (k + 1)⟩ by rw [hk, f9, i4, g6]; rfl);clear h h6 h7 h8 h9 hk i4 f9 g6 i6 l4 n7 m7 m6 n6 hF i3 o8;go_enter Tryz.func60, Tryz.ntmps60
 go_upto_region 1 with fail
 go_cut [5] from 6 to 18 (fun kv wx => kv = .int .i64 k ∧ Hid (Below w.heap.size w wx))
 case first =>
  refine wp_region_held_drew (S := fun W => W.cell? ⟨b, o + 1, none⟩ = some (.int .i64 fi) ∧ W.cell? ⟨b, o + 3, none⟩ = some (.slice Al nl cl) ∧ True ∧ True) (by kernel_rfl) ⟨c1, c3, trivial, trivial⟩ (fun hHeld => ?_);refine zT 0 (k := ?_);refine zT 1 (k := ?_);refine zT 2 (k := ?_);refine zT 3 (k := ?_);refine zT 4 (k := ?_);refine zT 5 (k := ?_);refine zT 6 (k := ?_);refine zT 7 (k := ?_);refine zT 8 (k := ?_);refine zT 9 (k := ?_);refine zT 10 (k := ?_);refine zT 11 (k := ?_);refine zT 12 (k := ?_);refine zT 13 (k := ?_);simp only [zA, zB, zF, zG, zC, zD, zE];refine wpAnyH_done (by kernel_rfl) ?_ _;go_wp2_with fail
  go_meet;refine ⟨congrArg (Value.int .i64) ?_, qZ (lS _ w).drew⟩;rw [<- j9]
  repeat' split
  all_goals omega
 obtain ⟨rfl, HB⟩ := hcut;have q5 := HB.out.size;have f8 := qZ HB.out.drew;have l6 : w.heap.size <= wc.drew.heap.size := q5;have d0 : wc.drew.cell? ⟨b, o, none⟩ = some (.int .i64 sk) := (f8.out.cell (p := ⟨b, o, none⟩) a7).trans c0;have d1 : wc.drew.cell? ⟨b, o + 1, none⟩ = some (.int .i64 fi) := (f8.out.cell (p := ⟨b, o + 1, none⟩) a7).trans c1;have d2 : wc.drew.cell? ⟨b, o + 2, none⟩ = some (.int .i64 tm) := (f8.out.cell (p := ⟨b, o + 2, none⟩) a7).trans c2;have d3 : wc.drew.cell? ⟨b, o + 3, none⟩ = some (.slice Al nl cl) := (f8.out.cell (p := ⟨b, o + 3, none⟩) a7).trans c3;have d4 : wc.drew.cell? ⟨b, o + 4, none⟩ = some (.slice Ae ne ce) := (f8.out.cell (p := ⟨b, o + 4, none⟩) a7).trans c4;have a8 := qZ (And.intro c0 (And.intro c1 (And.intro c2 (And.intro c3 c4))));have t7 : IntKind.i64.wrap ((k : Int) + 1) = (k : Int) + 1 := mH _ (by omega);have r9 : k <= cl := by omega
 have p0 : k + 1 <= ce := by omega
 have p4 : (0 : Int) <= (k : Int) + 1 := by omega
 have p5 : (k : Int) + 1 <= (ce : Int) := by omega
 have j6 := qZ (bX8 HD.out);have l7 := qZ (bK4 Al k cl _ wc.drew ((o7.out.rd.below f8.out).more l6) m4.out (fun u hu => j6.out u (List.mem_of_mem_take hu)) (by omega));clear c0 c1 c2 c3 c4 HB;go_upto_region 2 with fail
 refine wp_region_held_drew (S := fun W => W.cell? ⟨b, o, none⟩ = some (.int .i64 sk) ∧ W.cell? ⟨b, o + 1, none⟩ = some (.int .i64 fi) ∧ W.cell? ⟨b, o + 2, none⟩ = some (.int .i64 tm) ∧ W.cell? ⟨b, o + 3, none⟩ = some (.slice Al nl cl) ∧ W.cell? ⟨b, o + 4, none⟩ = some (.slice Ae ne ce) ∧ True) (by kernel_rfl) ⟨d0, d1, d2, d3, d4, trivial⟩ (fun hHeld => ?_);refine zT6 0 (k := ?_);refine zT6 1 (k := ?_);refine zT6 2 (k := ?_);refine zT6 3 (k := ?_);refine zT6 4 (k := ?_);refine zT6 5 (k := ?_);refine zT6 6 (k := ?_);refine zT6 7 (k := ?_);refine zT6 8 (k := ?_);refine zT6 9 (k := ?_);refine zT6 10 (k := ?_);refine zT6 11 (k := ?_);refine zT6 12 (k := ?_);refine zT6 13 (k := ?_);refine zT6 14 (k := ?_);refine zT6 15 (k := ?_);refine zT6 16 (k := ?_);refine zT6 17 (k := ?_);refine zT6 19 (k := ?_);refine zT6 20 (k := ?_);refine zT6 21 (k := ?_);refine zT6 22 (k := ?_);refine zT6 23 (k := ?_);refine zT6 24 (k := ?_);refine zT6 25 (k := ?_);simp only [zA, zB, zF, zG, zC, zD, zE];refine zV 18 (k := fun K hK => ?_);simp only [zA, zB];go_simp;refine l7.out.mono ?_;rintro e w6 ⟨vl, rfl, a9, j8⟩;obtain ⟨A6, c6, q7, _⟩ := aC2 a9;subst q7;have m0 := qZ a9;have d8 := qZ (f8.out.trans (j8.mono l6));have l5 := d8.out.size;have t8 := j8.size;have e0 : w6.cell? ⟨b, o, none⟩ = some (.int .i64 sk) := (d8.out.cell (p := ⟨b, o, none⟩) a7).trans a8.out.1;have e1 : w6.cell? ⟨b, o + 1, none⟩ = some (.int .i64 fi) := (d8.out.cell (p := ⟨b, o + 1, none⟩) a7).trans a8.out.2.1;have e2 : w6.cell? ⟨b, o + 2, none⟩ = some (.int .i64 tm) := (d8.out.cell (p := ⟨b, o + 2, none⟩) a7).trans a8.out.2.2.1;have e3 : w6.cell? ⟨b, o + 3, none⟩ = some (.slice Al nl cl) := (d8.out.cell (p := ⟨b, o + 3, none⟩) a7).trans a8.out.2.2.2.1
 have e4 : w6.cell? ⟨b, o + 4, none⟩ = some (.slice Ae ne ce) := (d8.out.cell (p := ⟨b, o + 4, none⟩) a7).trans a8.out.2.2.2.2;have l8 := qZ (cE4 Ae (k + 1) ce _ w6 ((n9.out.rd.below d8.out).more l5) (by rw [m3.out]; omega) (fun u hu => by obtain ⟨n, _, rfl⟩ := List.mem_map.1 (List.mem_of_mem_take hu); rfl) (by omega));clear a9 j8 l7 d0 d1 d2 d3 d4;refine hK.out _ _ ⟨e0, e1, e2, e3, e4, trivial⟩ (fun hHeld => ?_);clear hK K;try simp only [zF, zG, zC, zD, zE]
 refine zV 26 (k := fun K hK => ?_);simp only [zA, zB];go_simp;refine l8.out.mono ?_;rintro e w7 ⟨ve, rfl, b8, i1⟩;obtain ⟨A7, c7, q8, _⟩ := aC2 b8;subst q8;have m2 := qZ b8;have f7 := qZ (d8.out.trans (i1.mono l5));have p9 := f7.out.size;have t9 := i1.size;have g7 := qZ (World.ownsRow.kept m0.out (aA5 i1 none) (by cases (Value.slice A6 k c6).ownBlock <;> simp));have f0 : w7.cell? ⟨b, o, none⟩ = some (.int .i64 sk) := (f7.out.cell (p := ⟨b, o, none⟩) a7).trans a8.out.1;have f1 : w7.cell? ⟨b, o + 1, none⟩ = some (.int .i64 fi) := (f7.out.cell (p := ⟨b, o + 1, none⟩) a7).trans a8.out.2.1;have f2 : w7.cell? ⟨b, o + 2, none⟩ = some (.int .i64 tm) := (f7.out.cell (p := ⟨b, o + 2, none⟩) a7).trans a8.out.2.2.1;have f3 : w7.cell? ⟨b, o + 3, none⟩ = some (.slice Al nl cl) := (f7.out.cell (p := ⟨b, o + 3, none⟩) a7).trans a8.out.2.2.2.1;have f4 : w7.cell? ⟨b, o + 4, none⟩ = some (.slice Ae ne ce) := (f7.out.cell (p := ⟨b, o + 4, none⟩) a7).trans a8.out.2.2.2.2;clear b8 i1 l8 e0 e1 e2 e3 e4 m0 d8;refine hK.out _ _ ⟨f0, f1, f2, f3, f4, trivial⟩ (fun hHeld => ?_);clear hK K;try simp only [zF, zG, zC, zD, zE]
 refine zT6 27 (k := ?_);simp only [zA, zB, zF, zG, zC, zD, zE];refine zV 28 (k := fun K hK => ?_);simp only [zA, zB];go_simp;have i2 : Below w7.heap.size w7 (w7.alloc (.cells #[.int .i64 sk, .int .i64 fi, .int .i64 tm, .slice A6 k c6, .slice A7 (k + 1) c7] 104)) := (lS _ w7).alloc (lR _) _;have m5 := Blk.new w7 104 #[.int .i64 sk, .int .i64 fi, .int .i64 tm, .slice A6 k c6, .slice A7 (k + 1) c7];have e9 := qZ (f7.out.trans (i2.mono p9));have g8 := qZ (World.ownsRow.kept g7.out (aA5 i2 none) (by cases (Value.slice A6 k c6).ownBlock <;> simp));have g9 := qZ (World.ownsRow.kept m2.out (aA5 i2 none) (by cases (Value.slice A7 (k + 1) c7).ownBlock <;> simp));have l9 := qZ m5;have g0 := (e9.out.cell (p := ⟨b, o, none⟩) a7).trans a8.out.1;have g1 := (e9.out.cell (p := ⟨b, o + 1, none⟩) a7).trans a8.out.2.1;have g2 := (e9.out.cell (p := ⟨b, o + 2, none⟩) a7).trans a8.out.2.2.1;have g3 := (e9.out.cell (p := ⟨b, o + 3, none⟩) a7).trans a8.out.2.2.2.1;have g4 := (e9.out.cell (p := ⟨b, o + 4, none⟩) a7).trans a8.out.2.2.2.2;clear i2 m5 g7 m2 f0 f1 f2 f3 f4;obtain ⟨w8, m9⟩ : ∃ W, W = w7.alloc (.cells #[.int .i64 sk, .int .i64 fi, .int .i64 tm, .slice A6 k c6, .slice A7 (k + 1) c7] 104) := ⟨_, rfl⟩
 rw [<- m9] at e9 g8 g9 l9 g0 g1 g2 g3 g4 ⊢;clear m9;refine hK.out _ _ ⟨g0, g1, g2, g3, g4, trivial⟩ (fun hHeld => ?_);clear hK K;try simp only [zF, zG, zC, zD, zE]
 refine zT6 29 (k := ?_);simp only [zA, zB, zF, zG, zC, zD, zE];refine wpAnyH_done (by kernel_rfl) ?_ _;clear hHeld g0 g1 g2 g3 g4;go_wp2_with fail
 go_ret
 have m8 : (rs.take k).length = k := by
  have h1 := m4.out;rw [aV2, aC0] at h1;omega
 refine ⟨w7.heap.size, rs.take k, .slice A6 k c6, .slice A7 (k + 1) c7, rfl, ?_, e9.out⟩;rw [n8.out];refine ⟨l9.out, by omega, ?_, ?_, fun q hq => (HD.out q (List.mem_of_mem_take hq)).keep e9.out.size (fun k hk => e9.out.block k (HF.out k hk)), ?_⟩
 ·rw [m8, <- aV2]
  exact aZ1 g8.out l6
 ·rw [List.map_take, HM.out]
 have h1 := aZ1 g9.out l5;unfold Own;rw [lU, lV, List.map_take];have h2 := m3.out;rw [lV, lU] at h2;rw [h2];exact h1
end
section
open Go.RowKit Go.Maps Oct
def bD7 (ix : Int) (s : aB1) : Option Int := if 0 <= IntKind.i64.wrap (ix - s.first) ∧ IntKind.i64.wrap (ix - s.first) < (s.l.length : Int) then (s.l[(IntKind.i64.wrap (ix - s.first)).toNat]?).map aF9.tm else none
def bV5 (j : JnP) (ix : Int) : Option Int := if j.base.1 = ix then some j.base.2 else j.segs.findSome? (bD7 ix)
theorem dF7 {j : JnP} {ix : Int} (h : ∀ s ∈ j.segs, 0 <= s.first ∧ s.first <= 9223372036854775806) (h1 : -1 <= ix) (h2 : ix <= 9223372036854775807) : bV5 j ix = aW4 j ix := by
 unfold bV5 aW4;split
 ·rfl
 have : ∀ l : List aB1, (∀ s ∈ l, 0 <= s.first ∧ s.first <= 9223372036854775806) -> l.findSome? (bD7 ix) = l.findSome? fun s => if 0 <= ix - s.first ∧ ix - s.first < (s.l.length : Int) then (s.l[(ix - s.first).toNat]?).map aF9.tm else none := by
  intro l;induction l with
  | nil => intro _; rfl
  | cons s r ih =>
   intro h;have hs := h s (List.mem_cons_self ..);have hw : IntKind.i64.wrap (ix - s.first) = ix - s.first := mH _ (by omega);rw [List.findSome?_cons, List.findSome?_cons, ih (fun t ht => h t (List.mem_cons_of_mem _ ht))];unfold bD7;rw [hw]
 exact this _ h
theorem cV4 {w : World} {F : Nat -> Prop} {gj g : Nat} {j : JnP} (h : JAt w F gj g j) (hF : ∀ k, F k -> k < w.heap.size) (ix : Int) (p8 : -9223372036854775808 <= ix ∧ ix <= 9223372036854775807) :
  Calls Tryz.prog 72 #[.pointer (some ⟨gj, 0, none⟩), .int .i64 ix] w fun e w' => e = .returned (.tuple #[.int .i64 ((bV5 j ix).getD 0), .bool (bV5 j ix).isSome]) ∧ Below w.heap.size w w' := by
 have a7 := qZ h.base;obtain ⟨ba, i6⟩ : ∃ x, x = j.base.1 := ⟨_, rfl⟩
 obtain ⟨bt, j6⟩ : ∃ x, x = j.base.2 := ⟨_, rfl⟩
 obtain ⟨R, hR⟩ : ∃ R, R = bV5 j ix := ⟨_, rfl⟩
 have l9 : R = if ba = ix then some bt else j.segs.findSome? (bD7 ix) := by rw [hR, i6, j6]; rfl
 rw [<- hR];rw [<- i6, <- j6] at a7;have g7 := qZ l9;have p0 := h.lt;obtain ⟨⟨A, c, o7, h1, h2, h3, h4, h5⟩, h6, _⟩ := h;have HJ := qZ h1;have n8 := qZ h3;have n9 := qZ h5;have HF := qZ hF;obtain ⟨nl, i1⟩ : ∃ n, n = j.segs.length := ⟨_, rfl⟩
 rw [<- i1] at h2 h4 h6;have c2 : w.cell? ⟨gj, 2, none⟩ = some (.slice A nl c) := by rw [i1]; exact h1.cell 2
 have l8 := qZ i1;have i3 := qZ h4;have n7 := qZ c2;clear h1 h3 h4 h5 hF i1 i6 j6 hR l9 c2;go_enter Tryz.func72, Tryz.ntmps72
 go_wp2_with fail
 refine a7.out.mono ?_;rintro e w1 ⟨rfl, g9⟩;have l7 := qZ g9;have q6 := g9.size;have c2 : w1.cell? ⟨gj, 2, none⟩ = some (.slice A nl c) := (g9.cell (p := ⟨gj, 2, none⟩) p0).trans n7.out;clear g9 a7;by_cases hbi : ba = ix
 ·have f9 : R = some bt := by rw [g7.out, if_pos hbi]
  have o9 : (ba == ix) = true := beq_iff_eq.2 hbi;subst f9;clear hbi g7 c2;go_wp2_with fail
  go_ret2
  exact ⟨rfl, l7.out⟩
 have o9 : (ba == ix) = false := beq_eq_false_iff_ne.2 hbi;have f8 := qZ (show R = j.segs.findSome? (bD7 ix) by rw [g7.out, if_neg hbi]);clear hbi g7;go_wp2_with fail
 go_loopw [25, 9, 10] (fun i _ _ wr => ∃ k : Nat, k <= nl ∧ i = .int .i64 k ∧ Hid (R = (j.segs.drop k).findSome? (bD7 ix)) ∧ Hid (Below w.heap.size w wr)) (fun i _ _ _ => nl - (intOf i).toNat)
 case atStart => exact ⟨0, by omega, rfl, qZ f8.out, l7⟩
 obtain ⟨k, hk, rfl, b8, HB⟩ := hrel;clear c2;by_cases hlt : k < nl
 rotate_left
 ·have f9 : R = none := by
   rw [b8.out, List.drop_eq_nil_of_le (by rw [<- l8.out]; omega)]
   rfl
  subst f9;clear f8 b8;go_wp2_with fail
  go_ret2
  exact ⟨rfl, HB.out⟩
 have m6 : k < j.segs.length := by rw [<- l8.out]; exact hlt
 have m5 : k < o7.length := by rw [i3.out]; exact hlt
 have a9 : ∀ q, F q -> wr.heap[q]? = w.heap[q]? := fun q hq => HB.out.block q (HF.out q hq)
 obtain ⟨ab, ao, rfl, _, p6, m2⟩ := (n8.out.keep HB.out.size a9) (by rw [lU]; omega);have hM := (n9.out k m5 m6).keep HB.out.size a9;obtain ⟨b, o, Al, cl, rs, Ae, ce, m0, o8, p4, d0, d1, d2, d3, _, ⟨k1, k2, _⟩, m8, l5, _, _⟩ := hM.rd.cells;have e0 : wr.cell? ⟨ab, ao + k, none⟩ = some (.pointer (some ⟨b, o, none⟩)) := m2 k _ (by rw [List.getElem?_map, lW m5, m0]; rfl);have m3 : j.segs.drop k = j.segs[k] :: j.segs.drop (k + 1) := List.drop_eq_getElem_cons m6;have a8 : R = (bD7 ix j.segs[k]).or ((j.segs.drop (k + 1)).findSome? (bD7 ix)) := by
  rw [b8.out, m3, List.findSome?_cons];cases bD7 ix j.segs[k] <;> rfl
 have m7 := hM.len;have m4 := hM.rd.num.first;obtain ⟨s, hs⟩ : ∃ s, s = j.segs[k] := ⟨_, rfl⟩
 rw [<- hs] at d1 d3 a8 l5 m7 m4 k1;obtain ⟨fi, j8⟩ : ∃ x, x = s.first := ⟨_, rfl⟩
 obtain ⟨kk, j9⟩ : ∃ x, x = IntKind.i64.wrap (ix - fi) := ⟨_, rfl⟩
 obtain ⟨sl, i2⟩ : ∃ x, x = s.l.length := ⟨_, rfl⟩
 rw [<- j8] at d1;rw [<- i2] at d3 m7 k1;have n6 : bD7 ix s = if 0 <= kk ∧ kk < (sl : Int) then (s.l[kk.toNat]?).map aF9.tm else none := by unfold bD7; rw [<- j8, <- j9, <- i2]
 have d8 := qZ a8;have e9 := qZ n6;have g6 := qZ m8;have f7 := qZ l5;have g8 := qZ i2;have p9 : IntKind.i64.wrap (ix - fi) = kk := j9.symm;clear m2 hM m0 m3 a8 hs j8 j9 i2 n6 m8 l5 d0 d2 o8 m4;by_cases h0 : 0 <= kk
 rotate_left
 ·have i4 := qZ (show R = (j.segs.drop (k + 1)).findSome? (bD7 ix) by rw [d8.out, e9.out, if_neg (fun h => h0 h.1)]; rfl)
  clear d8 e9 g6 f7 g8 f8 b8;go_wp2_with fail
  go_roundw
  case rel => exact ⟨k + 1, by omega, by go_num, i4, HB⟩
  case measure => simp [intOf]; omega
 by_cases hl : kk < (sl : Int)
 ·obtain ⟨m, rfl⟩ : ∃ m : Nat, kk = (m : Int) := ⟨kk.toNat, by omega⟩
  have q5 : m < sl := by omega
  have p5 : rs.length = sl := by rw [g8.out, <- f7.out, lU]
  obtain ⟨eb, eo, rfl, _, p7, hc⟩ := g6.out (by rw [aC0]; omega);have l4 : m < rs.length := by omega
  have e1 : wr.cell? ⟨eb, eo + m * 4 + 1, none⟩ = some (.int .i64 rs[m].e.tm) := hc (m * 4 + 1) _ (by rw [aE6 _ l4 (by omega)]; rfl);have m9 : s.l[m]? = some rs[m].e := by rw [<- f7.out, List.getElem?_map, lW l4]; rfl
  obtain ⟨tm, l6⟩ : ∃ x, x = rs[m].e.tm := ⟨_, rfl⟩
  rw [<- l6] at e1;have f9 : R = some tm := by
   rw [d8.out, e9.out, if_pos ⟨h0, hl⟩];simp only [Int.toNat_natCast, m9, Option.map_some, l6, Option.some_or]
  subst f9;clear d8 e9 g6 f7 g8 hc l6 m9 f8 b8 p5 l4;go_wp2_with fail
  go_ret2
  exact ⟨rfl, HB.out⟩
 have i4 := qZ (show R = (j.segs.drop (k + 1)).findSome? (bD7 ix) by rw [d8.out, e9.out, if_neg (fun h => hl h.2)]; rfl);clear d8 e9 g6 f7 g8 f8 b8;go_wp2_with fail
 go_roundw
 case rel => exact ⟨k + 1, by omega, by go_num, i4, HB⟩
 case measure => simp [intOf]; omega
end
section
open Go.RowKit Go.Maps Oct
structure aJ2 (W : World) (G : Nat -> Prop) (nE gj g : Nat) (dv : Value) (vs : List Value) (al : List aC3) : Prop where
 own : Own W nE 98 dv vs
 len : vs.length = al.length
 acts : ∀ i (h : i < vs.length) (h' : i < al.length), aK3 W G gj g vs[i] al[i]
 fns : ∀ v ∈ vs, v.oneCell' = true
 lt : ∀ x, G x -> x < W.heap.size
 apart : ∀ r, dv.ownBlock = some r -> ¬ G r
section
variable {W W' : World} {G : Nat -> Prop} {nE gj g : Nat} {dv : Value} {vs : List Value} {al : List aC3}
theorem aJ2.nil : aJ2 W (fun _ => False) nE gj g (.slice none 0 0) [] [] := ⟨Own.nil _ _ _, rfl, (fun i h => by simp at h), (fun v hv => by cases hv), (fun _ h => h.elim), (fun _ _ h => h)⟩
theorem aJ2.other {row : Option Nat} (h : aJ2 W G nE gj g dv vs al) (hg : W.grownBy W' row) (hne : dv.ownBlock = none ∨ dv.ownBlock ≠ row) (hr : ∀ r, row = some r -> ¬ G r) : aJ2 W' G nE gj g dv vs al :=
 ⟨Own.kept h.own hg hne, h.len, fun i h3 h4 => (h.acts i h3 h4).keep hg.size (fun x hx => hg.block x (h.lt x hx) (fun e => hr x e.symm hx)), h.fns, fun x hx => Nat.lt_of_lt_of_le (h.lt x hx) hg.size, h.apart⟩
theorem aJ2.below (h : aJ2 W G nE gj g dv vs al) (hb : Below W.heap.size W W') : aJ2 W' G nE gj g dv vs al :=
 h.other (aA5 hb none) (by cases dv.ownBlock <;> simp) (fun r e => (by cases e))
theorem aJ2.pushes {W2 : World} {G' : Nat -> Prop} {us : List Value} {bl : List aC3} {dv' : Value} (h : aJ2 W G nE gj g dv vs al) (b8 : us.length = bl.length) (ha : ∀ i (h : i < us.length) (h' : i < bl.length), aK3 W G' gj g us[i] bl[i]) (h1 : ∀ u ∈ us, u.oneCell' = true) (hG : ∀ x, G x -> G' x) (a7 : ∀ x, G' x -> x < W.heap.size) (a9 : ∀ r, dv.ownBlock = some r -> ¬ G' r) (hg : W.grownBy W2 dv.ownBlock) (hf : aS5 dv' dv.ownBlock W.heap.size) (a8 : Own W2 nE 98 dv' (vs ++ us)) : aJ2 W2 G' nE gj g dv' (vs ++ us) (al ++ bl) := by
 have hk : ∀ x, G' x -> W2.heap[x]? = W.heap[x]? := fun x hx => hg.block x (a7 x hx) (fun e => a9 x e.symm hx)
 refine ⟨a8, by rw [lT, lT, h.len, b8], fun i h3 h4 => ?_, fun x hx => ?_, fun x hx => Nat.lt_of_lt_of_le (a7 x hx) hg.size, fun r hr hx => ?_⟩
 ·by_cases hi : i < vs.length
  ·rw [List.getElem_append_left hi, List.getElem_append_left (by rw [<- h.len]; exact hi)]
   exact ((h.acts i hi _).mono hG).keep hg.size hk
  rw [List.getElem_append_right (by omega), List.getElem_append_right (by rw [<- h.len]; omega)];have h5 : i - vs.length < us.length := by rw [lT] at h3; omega
  have h6 := ha (i - vs.length) h5 (by omega);have e : i - al.length = i - vs.length := by rw [h.len]
  simp only [e];exact h6.keep hg.size hk
 ·rcases List.mem_append.1 hx with hx | hx
  ·exact h.fns x hx
  exact h1 x hx
 rcases hf with e | ⟨q, e, hq⟩
 ·exact a9 r (e ▸ hr) hx
 rw [hr] at e;injection e with e
 have := a7 r hx;omega
theorem aJ2.step {W6 W8 : World} {a : aC3} {F6 : Nat} {caps6 : Array Value} {dv' : Value} (h : aJ2 W G nE gj g dv vs al) (b8 : Below W.heap.size W W6) (a8 : aK3 W6 (fun x => G x ∨ (W.heap.size <= x ∧ x < W6.heap.size)) gj g (.func (.func F6) #[] caps6) a)
  (hg : (W6.alloc (.cells #[.func (.func F6) #[] caps6] 98)).grownBy W8 dv.ownBlock) (hf : aS5 dv' dv.ownBlock (W6.alloc (.cells #[.func (.func F6) #[] caps6] 98)).heap.size) (a9 : Own W8 nE 98 dv' (vs ++ [.func (.func F6) #[] caps6])) :
  aJ2 W8 (fun x => G x ∨ (W.heap.size <= x ∧ x < W6.heap.size)) nE gj g dv' (vs ++ [.func (.func F6) #[] caps6]) (al ++ [a]) := by
 have a7 := (lS W6.heap.size W6).alloc (lR _) (.cells #[.func (.func F6) #[] caps6] 98);have d8 := b8.size;have e9 := a7.size;refine aJ2.pushes (h.below (b8.trans (a7.mono d8))) rfl (fun i h1 h2 => ?_) (fun u hu => by rw [List.mem_singleton.1 hu]; rfl) (fun x hx => .inl hx) (fun x hx => ?_) (fun r hr hx => ?_) hg hf a9
 ·obtain rfl : i = 0 := by simp at h1; exact h1
  exact a8.keep a7.size (fun x hx => a7.block x (by
   rcases hx with hx | hx
   ·have := h.lt x hx; omega
   exact hx.2))
 ·rcases hx with hx | hx
  ·have := h.lt x hx; omega
  omega
 rcases hx with hx | hx
 ·exact h.apart r hr hx
 have := (h.own.lt r hr).2; omega
end
structure aH7 (W : World) (F : Nat -> Prop) (nE : Nat) (v : Value) (ads : List Addr) (ss : List aB1) : Prop where
 own : Own W nE 108 v (ads.map fun a => .pointer (some a))
 len : ads.length = ss.length
 seg : ∀ i (h : i < ads.length) (h' : i < ss.length), aY4 W F ads[i] ss[i]
 lt : ∀ x, F x -> x < W.heap.size
 apart : ∀ r, v.ownBlock = some r -> ¬ F r
section
variable {W W' : World} {F : Nat -> Prop} {nE : Nat} {v : Value} {ads : List Addr} {ss : List aB1}
theorem aH7.other {row : Option Nat} (h : aH7 W F nE v ads ss) (hg : W.grownBy W' row) (hne : v.ownBlock = none ∨ v.ownBlock ≠ row) (hr : ∀ r, row = some r -> ¬ F r) : aH7 W' F nE v ads ss :=
 ⟨Own.kept h.own hg hne, h.len, fun i h1 h2 => (h.seg i h1 h2).keep hg.size (fun x hx => hg.block x (h.lt x hx) (fun e => hr x e.symm hx)), fun x hx => Nat.lt_of_lt_of_le (h.lt x hx) hg.size, h.apart⟩
theorem aH7.below (h : aH7 W F nE v ads ss) (hb : Below W.heap.size W W') : aH7 W' F nE v ads ss :=
 h.other (aA5 hb none) (by cases v.ownBlock <;> simp) (fun r e => (by cases e))
theorem aH7.push {W2 : World} {F' : Nat -> Prop} {v' : Value} {ad : Addr} {s : aB1} (h : aH7 W F nE v ads ss) (hs : aY4 W F' ad s) (hF : ∀ x, F x -> F' x) (a7 : ∀ x, F' x -> x < W.heap.size) (a9 : ∀ r, v.ownBlock = some r -> ¬ F' r) (hg : W.grownBy W2 v.ownBlock) (hf : aS5 v' v.ownBlock W.heap.size) (a8 : Own W2 nE 108 v' ((ads.map fun a => .pointer (some a)) ++ [.pointer (some ad)])) : aH7 W2 F' nE v' (ads ++ [ad]) (ss ++ [s]) := by
 have hk : ∀ x, F' x -> W2.heap[x]? = W.heap[x]? := fun x hx => hg.block x (a7 x hx) (fun e => a9 x e.symm hx)
 refine ⟨by rw [mE]; exact a8, by rw [lT, lT, h.len]; rfl, fun i h3 h4 => ?_, fun x hx => Nat.lt_of_lt_of_le (a7 x hx) hg.size, fun r hr hx => ?_⟩
 ·by_cases hi : i < ads.length
  ·rw [List.getElem_append_left hi, List.getElem_append_left (by rw [<- h.len]; exact hi)]
   exact ((h.seg i hi _).mono hF).keep hg.size hk
  have e : i = ads.length := by rw [lT] at h3; simp at h3; omega
  subst e;have e2 : (ss ++ [s])[ads.length] = s := by simp [h.len]
  rw [e2];simp only [List.getElem_concat_length];exact hs.keep hg.size hk
 rcases hf with e | ⟨q, e, hq⟩
 ·exact a9 r (e ▸ hr) hx
 rw [hr] at e;injection e with e
 have := a7 r hx;omega
end
theorem RdF.cutA {w : World} {F : Nat -> Prop} {A : Option Addr} {xs : List Value} (h : RdF w F A xs) {k cap : Nat} (hk : k <= xs.length) (hc : xs.length <= cap) : RdF w F (Go.Proofs.YtgeofijddhflaaaGreatDoor.cutA A k cap) (xs.drop k) := fun h0 => by
 rw [lZ] at h0;obtain ⟨b, o, rfl, hF, hlt, hcc⟩ := h (by omega);refine ⟨b, o + k, ?_, hF, hlt, fun j u hu => ?_⟩
 ·unfold Go.Proofs.YtgeofijddhflaaaGreatDoor.cutA
  rw [if_neg (by omega)];simp only [Option.map_some, add_lit]
 rw [Nat.add_assoc];exact hcc (k + j) u (by rw [<- hu, List.getElem?_drop])
theorem aH7.jat {W : World} {F : Nat -> Prop} {nE gj g k n c : Nat} {A : Option Addr} {ads : List Addr} {ss : List aB1} (h : aH7 W F nE (.slice A n c) ads ss) (hk : k <= ss.length) {t v bad : Int} (hb : Blk W gj 53 #[.int .i64 t, .int .i64 v, .slice (cutA A k c) (n - k) (c - k), .pointer (some ⟨g, 0, none⟩), .int .i64 bad]) (hn : ss.length <= 1000000000) (ht : -9223372036854775808 <= t ∧ t <= 9223372036854775807) (hv : -9223372036854775808 <= v ∧ v <= 9223372036854775807) :
  JAt W (fun x => F x ∨ (Value.slice A n c).ownBlock = some x) gj g ⟨t, v, ss.drop k, bad⟩ := by
 obtain ⟨A', c', a9, h1, h2, _⟩ := Own.shape h.own;injection a9 with _ e1 e2
 rw [lU] at h1 e1;rw [h.len] at e1 h1;subst e2;have a7 : (ss.drop k).length = n - k := by rw [lZ, e1]
 refine ⟨⟨Go.Proofs.YtgeofijddhflaaaGreatDoor.cutA A k c, c - k, ads.drop k, ?_, ?_, ?_, ?_, fun i h3 h4 => ?_⟩, by show (ss.drop k).length <= _; omega, ht, hv⟩
 ·show Blk W gj _ #[.int .i64 t, .int .i64 v, .slice _ (ss.drop k).length (c - k), _, _]
  rw [a7];exact hb
 ·show (ss.drop k).length <= c - k ∧ c - k <= maxLen
  omega
 ·have hr : RdF W (fun x => F x ∨ (Value.slice A n c).ownBlock = some x) A (ads.map fun a => Value.pointer (some a)) := fun h0 => by
   rcases Own.whole h.own with ⟨_, e⟩ | ⟨q, cap, b8, e, _, a8, _⟩
   ·rw [e] at h0; simp at h0
   obtain ⟨A2, c2, e3, _, _, hr⟩ := Own.shape h.own;obtain ⟨ad, e4, _, hc⟩ := hr h0;injection e with e5 _ _
   injection e3 with e6 _ _
   rw [<- e6, e5] at e4;injection e4 with e4
   subst e4;exact ⟨q, 0, e5, .inr (by rw [e5]; rfl), a8, fun j u hu => by rw [<- add_lit]; exact hc j u hu⟩
  rw [List.map_drop];exact hr.cutA (by rw [lU, h.len]; exact hk) (by rw [lU, h.len]; exact h1)
 ·show (ads.drop k).length = (ss.drop k).length
  rw [lZ, lZ, h.len]
 show aY4 W _ _ ((ss.drop k)[i]'(h4))
 rw [List.getElem_drop];simp only [List.getElem_drop];exact (h.seg _ _ _).mono (fun x hx => .inl hx)
theorem Got.rdR {w : World} {base : Nat} {F : Nat -> Prop} {A : Option Addr} {n c : Nat} {l : List UInt8} (h : Got w base (.slice A n c) l) (hF : ∀ k, base <= k -> k < w.heap.size -> F k) : RdF w F A (cells l) := fun h0 => by
 obtain ⟨A', c', hv, _, _, hr⟩ := h.shape;injection hv with e1 _ _
 subst e1;obtain ⟨ad, e, hlt, hc⟩ := hr h0;rcases h.row with hr0 | ⟨g, n', cap, cur, hv2, hg, hB, _⟩
 ·injection hr0 with e2 _ _
  rw [e2] at e;cases e
 injection hv2 with e2 _ _
 rw [e2] at e;injection e with e
 subst e;refine ⟨g, 0, e2, hF g hg hB.lt, hB.lt, fun j u hu => ?_⟩;rw [<- add_lit];exact hc j u hu
theorem dE9 {w : World} {F : Nat -> Prop} {b r : Nat} {k first term n : Int} (hb : Blk w b 104 #[.int .i64 k, .int .i64 first, .int .i64 term, .slice none 0 0, .slice (some ⟨r, 0, none⟩) 1 1]) (hr : Blk w r 3 #[.int .i64 n]) (a7 : F b) (a8 : F r) (hk : -9223372036854775808 <= k ∧ k <= 9223372036854775807) (hf : 0 <= first ∧ first <= 9223372036854775806) (ht : -9223372036854775808 <= term ∧ term <= 9223372036854775807) (hn : 0 <= n ∧ n <= 4611686018427387904) : aY4 w F ⟨b, 0, none⟩ ⟨k, first, term, [], [n]⟩ := by
 refine ⟨⟨⟨none, 0, [], some ⟨r, 0, none⟩, 1, fun _ => ⟨b, 0, rfl, a7, hb.lt, fun j u hu => ?_⟩, lR _, Nat.zero_le _, lR _, by unfold maxLen; omega, RdF.nil, rfl, (fun q hq => by cases hq), fun _ => ⟨r, 0, rfl, a8, hr.lt, fun j u hu => ?_⟩⟩, ⟨hk, hf, ht, (fun e he => by cases he), fun x hx => by rw [List.mem_singleton.1 hx]; exact hn⟩⟩, rfl, Nat.zero_le _, fun e he => by cases he⟩
 ·rw [Nat.zero_add]; exact aI1 hb j u hu
 rw [Nat.zero_add]; exact aI1 hr j u hu
theorem aR9 {w w' : World} {B : Nat} {e : TypeId} {size n : Nat} {v : Value} {xs : List Value} (h : w.ownsRow B e size v n xs) (hk : ∀ r, v.ownBlock = some r -> w'.heap[r]? = w.heap[r]?) : w'.ownsRow B e size v n xs := by
 refine ⟨h.1, ?_⟩;rcases h.2 with h2 | ⟨g, cap, a7, hv, hb, hg, r⟩
 ·exact .inl h2
 exact .inr ⟨g, cap, a7, hv, hb, (hk g (by rw [hv]; rfl)).trans hg, r⟩
theorem aH7.keep {W W' : World} {F : Nat -> Prop} {nE : Nat} {v : Value} {ads : List Addr} {ss : List aB1} (h : aH7 W F nE v ads ss) (hs : W.heap.size <= W'.heap.size) (hk : ∀ x, F x ∨ v.ownBlock = some x -> W'.heap[x]? = W.heap[x]?) : aH7 W' F nE v ads ss :=
 ⟨aR9 h.own (fun r hr => hk r (.inr hr)), h.len, fun i h1 h2 => (h.seg i h1 h2).keep hs (fun x hx => hk x (.inl hx)), fun x hx => Nat.lt_of_lt_of_le (h.lt x hx) hs, h.apart⟩
theorem cJ1 (ss : List aB1) (ix : Int) : ∀ (fuel f : Nat), f <= ss.length -> aV5 ss ix fuel f <= ss.length
 | 0, f, h => h
 | fuel + 1, f, h => by
  unfold aV5;split
  ·rename_i s hs
   have := (List.getElem?_eq_some_iff.1 hs).1;split
   ·exact cJ1 ss ix fuel (f + 1) (by omega)
   exact h
  exact h
end
section
open Go.RowKit Go.Maps Oct
theorem bZ4 {j : JnP} {l : List aF9} (h : bT8 j l = 0) : ∀ e ∈ l, e.b.length <= 65535 := by
 unfold bT8 at h;split at h
 ·cases h
 split at h
 ·cases h
 rename_i h2
 intro e he;refine Nat.le_of_not_lt fun h3 => h2 ?_
 rw [List.any_eq_true];exact ⟨e, he, decide_eq_true h3⟩
theorem cW7 {j : JnP} {e : aF9} {r : List aF9} (h : bT8 j (e :: r) = 0) : j.base.1 < e.ix ∧ e.ix ≠ 9223372036854775807 := by
 unfold bT8 at h;split at h
 ·cases h
 rename_i h1
 rw [bL4] at h1;have h2 : cP5 j.base.1 e j.last.1 none = false := by
  cases hs : cP5 j.base.1 e j.last.1 none with
  | false => rfl
  | true => rw [hs] at h1; exact absurd rfl h1
 unfold cP5 at h2;simp only [Bool.or_eq_false_iff, decide_eq_false_iff_not] at h2;obtain ⟨⟨⟨⟨⟨h3, _⟩, h4⟩, _⟩, _⟩, _⟩ := h2;exact ⟨by omega, h4⟩
theorem aY4.ahead_ok {w : World} {F : Nat -> Prop} {ad : Addr} {s : aB1} (h : aY4 w F ad s) (ix : Int) : bG2 (s.ahead ix) ∧ (s.ahead ix).ends.length = (s.ahead ix).l.length + 1 ∧ (s.ahead ix).l.length <= s.l.length ∧ ∀ e ∈ (s.ahead ix).l, e.b.length <= 65535 := by
 have h1 : s.aheadN ix <= s.l.length := Nat.min_le_right _ _;refine ⟨⟨h.rd.num.k, h.rd.num.first, h.rd.num.term, fun e he => h.rd.num.ent e (List.mem_of_mem_take he), fun n hn => h.rd.num.ends n (List.mem_of_mem_take hn)⟩, ?_, ?_, fun e he => h.txt e (List.mem_of_mem_take he)⟩
 ·show (s.ends.take _).length = (s.l.take _).length + 1
  rw [lV, lV, h.ends];omega
 show (s.l.take _).length <= _
 rw [lV];omega
theorem aB2 {W : World} {B : Nat} {e : TypeId} {size n : Nat} {v : Value} {xs : List Value} {b : Nat} {T : TypeId} {cs : Array Value} (h : W.ownsRow B e size v n xs) (hb : Blk W b T cs) (hT : e ≠ T) : v.ownBlock ≠ some b := fun e' => by
 obtain ⟨cs', hc⟩ := aD1 h e';have h1 := hc.symm.trans hb;injection h1 with h1
 injection h1 with _ h1 _
 exact hT h1
structure bV7 (W w0 : World) (F : Nat -> Prop) (j : JnP) (ix : Int) (ads : List Addr) (N wz nE sb gj g : Nat) (rv dv : Value) (vs : List Value) (G : Nat -> Prop) (adK : List Addr) (fk ft fr : Int) (al : List aC3) : Prop where
 below : Below nE w0 W
 fresh : Blk W sb 104 #[.int .i64 fk, .int .i64 ix, .int .i64 ft, .slice none 0 0, .slice none 0 0]
 row : Own W nE 108 rv (adK.map fun a => Value.pointer (some a))
 acts : aJ2 W G nE gj g dv vs al
 gl : ∀ x, G x -> F x ∨ wz <= x
 gs : ¬ G sb ∧ ∀ r, rv.ownBlock = some r -> ¬ G r
 num : (1 <= fk ∧ fk <= 1000000000) ∧ (-9223372036854775808 <= ft ∧ ft <= 9223372036854775807) ∧ 0 <= fr ∧ fr <= 7000000000000000000
 kind : (N = 0 ∧ adK = [] ∧ fk = 1 ∧ ft = 0 ∧ fr = aH8 j N + 0 ∧ al = (aO5 j N).map fun x => aC3.rm (aA1 x.k)) ∨ ∃ (m1 : Nat) (s c : aB1) (cb : Nat) (rsC : List aD8) (vlC veC : Value), N = m1 + 1 ∧ (∃ h : m1 < j.segs.length, s = j.segs[m1]) ∧ c = s.ahead ix ∧ adK = ads.take m1 ++ ([⟨cb, 0, none⟩] : List Addr) ∧ bE0 W F nE cb c rsC vlC veC ∧ fk = s.k + 1 ∧ ft = c.last.2 ∧ fr = aH8 j N + aO4 s c ∧ al = ((aO5 j N).map fun x => aC3.rm (aA1 x.k)) ++ aR1 s c ∧ (bG2 c ∧ c.ends.length = c.l.length + 1 ∧ c.l.length <= 100000000 ∧ ∀ e ∈ c.l, e.b.length <= 65535) ∧ sb < cb ∧ ¬ G cb ∧ (∀ r, vlC.ownBlock = some r -> ¬ G r) ∧ (∀ r, veC.ownBlock = some r -> ¬ G r)
def dO7 (j : JnP) (ix : Int) (N : Nat) : Bool := if N = 0 then true else match j.segs[N - 1]? with | some s => decide (600 <= (s.ahead ix).long) | none => true
theorem bL6 {j : JnP} {ix : Int} {m1 : Nat} (h : m1 < j.segs.length) : dO7 j ix (m1 + 1) = decide (600 <= (j.segs[m1].ahead ix).long) := by
 unfold dO7;rw [if_neg (by omega), Nat.add_sub_cancel, lW h]
theorem bV7.below2 {W W' w0 : World} {F : Nat -> Prop} {j : JnP} {ix : Int} {ads : List Addr} {N wz nE sb gj g : Nat} {rv dv : Value} {vs : List Value} {G : Nat -> Prop} {adK : List Addr} {fk ft fr : Int} {al : List aC3} (h : bV7 W w0 F j ix ads N wz nE sb gj g rv dv vs G adK fk ft fr al) (hF : ∀ q, F q -> q < W.heap.size) (hb : Below W.heap.size W W') (hn : nE <= W.heap.size) : bV7 W' w0 F j ix ads N wz nE sb gj g rv dv vs G adK fk ft fr al :=
 ⟨h.below.trans (hb.mono hn), h.fresh.below hb h.fresh.lt, Own.below h.row hb (lR _), h.acts.below hb, h.gl, h.gs, h.num, by
  rcases h.kind with h1 | ⟨m1, s, c, cb, rsC, vlC, veC, k1, k2, k3, k4, k5, k6⟩
  ·exact .inl h1
  exact .inr ⟨m1, s, c, cb, rsC, vlC, veC, k1, k2, k3, k4, k5.below hF hb, k6⟩⟩
structure aF1 (W : World) (F : Nat -> Prop) (wz nE gj g : Nat) (rv dv : Value) (vs : List Value) (G : Nat -> Prop) (al : List aC3) (adsP : List Addr) (ssP : List aB1) (FP : Nat -> Prop) (tb : Nat) (s0 : aB1) (rsT : List aD8) (vl ve bv : Value) (bh : List UInt8) : Prop where
 acts : aJ2 W G nE gj g dv vs al
 row : Own W nE 108 rv ((adsP ++ ([⟨tb, 0, none⟩] : List Addr)).map fun a => Value.pointer (some a))
 len : adsP.length = ssP.length
 seg : ∀ i (h : i < adsP.length) (h' : i < ssP.length), aY4 W FP adsP[i] ssP[i]
 fl : ∀ x, FP x -> x < W.heap.size ∧ (F x ∨ nE <= x)
 gl : ∀ x, G x -> F x ∨ wz <= x
 tgt : bE0 W F nE tb s0 rsT vl ve
 bytes : Got W nE bv bh
 wr : ∀ x, rv.ownBlock = some x ∨ x = tb ∨ vl.ownBlock = some x ∨ ve.ownBlock = some x ∨ bv.ownBlock = some x ∨ dv.ownBlock = some x -> ¬ G x ∧ ¬ FP x
 num : bG2 s0 ∧ s0.ends.length = s0.l.length + 1 ∧ s0.l.length <= 103000000 ∧ (∀ e ∈ s0.l, e.b.length <= 65535) ∧ (1 <= s0.k ∧ s0.k <= 1000000000)
section
variable {W W' : World} {F F' : Nat -> Prop} {wz nE gj g : Nat} {rv dv : Value} {vs : List Value} {G : Nat -> Prop} {al : List aC3} {adsP : List Addr} {ssP : List aB1} {FP : Nat -> Prop} {tb : Nat} {s0 : aB1} {rsT : List aD8} {vl ve bv : Value} {bh : List UInt8}
theorem aF1.below2 (h : aF1 W F wz nE gj g rv dv vs G al adsP ssP FP tb s0 rsT vl ve bv bh) (hF : ∀ q, F q -> q < W.heap.size) (hb : Below W.heap.size W W') : aF1 W' F wz nE gj g rv dv vs G al adsP ssP FP tb s0 rsT vl ve bv bh :=
 ⟨h.acts.below hb, Own.below h.row hb (lR _), h.len, fun i h1 h2 => (h.seg i h1 h2).keep hb.size (fun q hq => hb.block q (h.fl q hq).1), fun x hx => ⟨Nat.lt_of_lt_of_le (h.fl x hx).1 hb.size, (h.fl x hx).2⟩, h.gl, h.tgt.below hF hb, h.bytes.below hb (lR _), h.wr, h.num⟩
theorem aF1.monoF (h : aF1 W F wz nE gj g rv dv vs G al adsP ssP FP tb s0 rsT vl ve bv bh) (hF : ∀ q, F q -> F' q) : aF1 W F' wz nE gj g rv dv vs G al adsP ssP FP tb s0 rsT vl ve bv bh :=
 ⟨h.acts, h.row, h.len, h.seg, fun x hx => ⟨(h.fl x hx).1, (h.fl x hx).2.imp (hF x) id⟩, fun x hx => (h.gl x hx).imp (hF x) id, h.tgt.mono hF, h.bytes, h.wr, h.num⟩
theorem aF1.wrlt (h : aF1 W F wz nE gj g rv dv vs G al adsP ssP FP tb s0 rsT vl ve bv bh) : ∀ x, rv.ownBlock = some x ∨ x = tb ∨ vl.ownBlock = some x ∨ ve.ownBlock = some x ∨ bv.ownBlock = some x ∨ dv.ownBlock = some x -> nE <= x ∧ x < W.heap.size := fun x hx => by
 rcases hx with hx | hx | hx | hx | hx | hx
 ·exact h.row.lt x hx
 ·rw [hx]; exact ⟨h.tgt.low, h.tgt.blk.lt⟩
 ·exact World.ownsRow.lt h.tgt.ents x hx
 ·exact World.ownsRow.lt h.tgt.ends x hx
 ·exact ⟨h.bytes.row.base x hx, h.bytes.row.lt x hx⟩
 exact h.acts.own.lt x hx
end
theorem bU3 {w : World} {base : Nat} {e : TypeId} {n c : Nat} {A : Option Addr} {xs : List Value} (h : Own w base e (.slice A n c) xs) : RdF w (fun k => (Value.slice A n c).ownBlock = some k) A xs := fun h0 => by
 obtain ⟨b, o, e1, _, hlt, hc⟩ := (RdF.of_own (F := fun _ => True) h (fun _ _ _ => trivial)) h0;subst e1;refine ⟨b, o, rfl, ?_, hlt, hc⟩;rcases Own.whole h with ⟨h1, _⟩ | ⟨g, cap, cur, h1, _⟩
 ·injection h1 with h1 _ _; cases h1
 injection h1 with h1 _ _
 injection h1 with h1
 injection h1 with h1 h2 _
 subst h1 h2
 rfl
theorem dE4 {w : World} {base : Nat} {e : TypeId} {size n m c : Nat} {A : Option Addr} {xs : List Value} (h : w.ownsRow base e size (.slice A m c) n xs) (hn : n * size = xs.length) : RdF w (fun k => (Value.slice A m c).ownBlock = some k) A xs := fun h0 => by
 obtain ⟨b, o, e1, _, hlt, hc⟩ := (RdF.of_row (F := fun _ => True) h (fun _ _ _ => trivial) hn) h0;subst e1;refine ⟨b, o, rfl, ?_, hlt, hc⟩;rcases h.2 with ⟨h1, _⟩ | ⟨g, cap, cur, h1, _⟩
 ·injection h1 with h1 _ _; cases h1
 injection h1 with h1 _ _
 injection h1 with h1
 injection h1 with h1 h2 _
 subst h1 h2
 rfl
theorem bE0.keepB {w w' : World} {F : Nat -> Prop} {B b : Nat} {s : aB1} {rs : List aD8} {vl ve : Value} (h : bE0 w F B b s rs vl ve) (hs : w.heap.size <= w'.heap.size) (hk : ∀ x, F x ∨ x = b ∨ vl.ownBlock = some x ∨ ve.ownBlock = some x -> w'.heap[x]? = w.heap[x]?) : bE0 w' F B b s rs vl ve :=
 ⟨(hk b (.inr (.inl rfl))).trans h.blk, h.low, aR9 h.ents (fun r hr => hk r (.inr (.inr (.inl hr)))), h.map, fun q hq => (h.dat q hq).keep hs (fun x hx => hk x (.inl hx)), aR9 h.ends (fun r hr => hk r (.inr (.inr (.inr hr))))⟩
theorem bE0.segMx {w : World} {F : Nat -> Prop} {B b : Nat} {s : aB1} {rs : List aD8} {vl ve : Value} (h : bE0 w F B b s rs vl ve) (hn : bG2 s) (he : s.ends.length = s.l.length + 1) (hl : s.l.length <= 1099511627776) (ht : ∀ e ∈ s.l, e.b.length <= 65535) : aY4 w (fun x => F x ∨ x = b ∨ vl.ownBlock = some x ∨ ve.ownBlock = some x) ⟨b, 0, none⟩ s := by
 obtain ⟨A1, c1, e1, k1, k2, _⟩ := aC2 h.ents;obtain ⟨A2, c2, e2, k3, k4, _⟩ := Own.shape h.ends;have a7 : rs.length = s.l.length := by rw [<- h.map, lU]
 rw [lU] at k3 e2;subst e1 e2;refine ⟨⟨⟨A1, c1, rs, A2, c2, fun _ => ⟨b, 0, rfl, .inr (.inl rfl), h.blk.lt, fun j u hu => ?_⟩, by rw [<- a7]; exact k1, k2, k3, k4, (dE4 h.ents (by rw [aC0]; omega)).mono (fun k hk => .inr (.inr (.inl hk))), h.map, fun q hq => (h.dat q hq).mono (fun k hk => .inl hk), (bU3 h.ends).mono (fun k hk => .inr (.inr (.inr hk)))⟩, hn⟩, he, hl, ht⟩;rw [Nat.zero_add];refine aI1 h.blk j u ?_;rw [a7];exact hu
theorem dD0 {s : aB1} (h : bG2 s) : -9223372036854775808 <= s.last.2 ∧ s.last.2 <= 9223372036854775807 := by
 unfold aB1.last;rcases mJ s.l with h0 | ⟨r, e, h0⟩
 ·rw [h0]; exact h.term
 rw [mA] at h0;have := h.ent e (by rw [h0]; simp);rw [h0];simp only [List.getLast?_append, List.getLast?_singleton, Option.some_or];exact this.2.1
theorem bE0.lower {w : World} {F : Nat -> Prop} {B B' b : Nat} {s : aB1} {rs : List aD8} {vl ve : Value} (h : bE0 w F B b s rs vl ve) (hB : B' <= B) : bE0 w F B' b s rs vl ve := ⟨h.blk, Nat.le_trans hB h.low, aZ1 h.ents hB, h.map, h.dat, aZ1 h.ends hB⟩
theorem dP0 {G X : Prop} (h1 : G -> X) (h2 : G) : X := h1 h2
section
variable {P : Program} {md : Region.Mode} {Q : Exit -> Act -> World -> Prop} {S : World -> Prop} {l : List Oper} {t : Nat}
theorem cT8 (i k : Nat) {fuel : Nat} {listed : Array Bool} {a : Act} {w : World} (hi : i < l.length) (hk : k < l.length) (hr : Region.ready md l.toArray listed = [i, k])
  (h1 : ∀ K' : Act -> World -> Prop, Shut (∀ a w, S w -> (S w -> aJ0 P md l.toArray Q S t fuel (listed.setIfInBounds i true) a w) -> K' a w) -> if Region.wanted l[i] (yielded l.toArray a.tmps) = true then Oper.wp P l[i] a w K' Q else K' (a.put l[i].dst undef) w)
  (h2 : ∀ K' : Act -> World -> Prop, Shut (∀ a w, S w -> (S w -> aJ0 P md l.toArray Q S t fuel (listed.setIfInBounds k true) a w) -> K' a w) -> if Region.wanted l[k] (yielded l.toArray a.tmps) = true then Oper.wp P l[k] a w K' Q else K' (a.put l[k].dst undef) w) : aJ0 P md l.toArray Q S t (fuel + 1) listed a w :=
 ⟨fun h0 => absurd (hr ▸ h0) (by simp), fun j hj => by
  rw [hr] at hj;rcases List.mem_cons.1 hj with rfl | hj
  ·exact wpOp_step (by rw [List.getElem?_toArray, lW hi]) (fun K' hK => h1 K' (fun a w hS hW => hK a w ⟨fun _ => hS, hW hS⟩))
  obtain rfl := List.mem_singleton.1 hj;exact wpOp_step (by rw [List.getElem?_toArray, lW hk]) (fun K' hK => h2 K' (fun a w hS hW => hK a w ⟨fun _ => hS, hW hS⟩))⟩
end
theorem Got.kind {w : World} {b : Nat} {v : Value} {l : List UInt8} (h : Got w b v l) : ∀ x, v.ownBlock = some x -> ∃ cs, Blk w x 5 cs := fun x hx => by
 rcases h.row with h1 | ⟨g', _, _, cur, h1, _, hB, _⟩
 ·rw [h1] at hx; cases hx
 rw [h1] at hx;injection hx with hx
 subst hx;exact ⟨_, hB⟩
theorem aS0 {w : World} {B b : Nat} {e : TypeId} {size n : Nat} {v bv : Value} {xs : List Value} {l : List UInt8} (h : w.ownsRow B e size v n xs) (hg : Got w b bv l) (hT : e ≠ 5) : v.ownBlock = none ∨ v.ownBlock ≠ bv.ownBlock := by
 cases hu : v.ownBlock with
 | none => exact .inl rfl
 | some q =>
  refine .inr fun e' => ?_
  obtain ⟨cs, hB⟩ := hg.kind q e'.symm;exact aB2 h hB hT hu
theorem bB5 {w : World} {ops : Array Oper} {rest : List Oper} {o : Oper} {a : Act} {Q : Exit -> Act -> World -> Prop} (hgd : o.guard = none) (s x : Operand)
  (ho : o.op = .call { callee := .builtin .append, args := #[s, x], argTypes := #[34, 34] })
  (base : Nat) (v : Value) (l : List UInt8) (hs : a.eval s = v) (hgot : Got w base v l) (B : Nat) (A : Option Addr) (c : Nat) (q : List UInt8) (hx : a.eval x = .slice A q.length c) (hrd : Rd w B A (cells q)) (hlen : l.length + q.length <= 1099511627776) (hbase : base <= w.heap.size)
  (h : ∀ v' w', Got w' base v' (l ++ q) -> w.grownBy w' v.ownBlock -> (∀ k, v'.ownBlock = some k -> v.ownBlock = some k ∨ w.heap.size <= k) -> wpList Tryz.prog ops Q rest (a.put o.dst v') w') : wpList Tryz.prog ops Q (o :: rest) a w :=
 wpList_plain hgd fun _ hK => aY1 s x ho base v l hs hgot B A c q hx hrd hlen hbase fun v' w' h1 h2 h3 => hK _ _ (h v' w' h1 h2 h3)
theorem aH7.jat0 {W : World} {F : Nat -> Prop} {nE gj g n c : Nat} {A : Option Addr} {ads : List Addr} {ss : List aB1} (h : aH7 W F nE (.slice A n c) ads ss) {t v bad : Int} (hb : Blk W gj 53 #[.int .i64 t, .int .i64 v, .slice A n c, .pointer (some ⟨g, 0, none⟩), .int .i64 bad]) (hn : ss.length <= 1000000000) (ht : -9223372036854775808 <= t ∧ t <= 9223372036854775807) (hv : -9223372036854775808 <= v ∧ v <= 9223372036854775807) :
  JAt W (fun x => F x ∨ (Value.slice A n c).ownBlock = some x) gj g ⟨t, v, ss, bad⟩ := by
 have a7 := bU3 h.own;obtain ⟨A', c', a8, h1, h2, _⟩ := Own.shape h.own;injection a8 with _ e1 e2
 rw [lU] at h1 e1;rw [h.len] at e1 h1;subst e1 e2;exact ⟨⟨A, c, ads, hb, ⟨h1, h2⟩, a7.mono (fun k hk => .inr hk), h.len, fun i h3 h4 => (h.seg i h3 h4).mono (fun x hx => .inl hx)⟩, by show ss.length <= _; omega, ht, hv⟩
theorem aH7.keep' {W W' : World} {F : Nat -> Prop} {nE : Nat} {v : Value} {ads : List Addr} {ss : List aB1} (h : aH7 W F nE v ads ss) (hs : W.heap.size <= W'.heap.size) (hk : ∀ x, F x ∨ v.ownBlock = some x -> W'.heap[x]? = W.heap[x]?) : aH7 W' F nE v ads ss :=
 ⟨aR9 h.own (fun r hr => hk r (.inr hr)), h.len, fun i h1 h2 => (h.seg i h1 h2).keep hs (fun x hx => hk x (.inl hx)), fun x hx => Nat.lt_of_lt_of_le (h.lt x hx) hs, h.apart⟩
theorem Got.rdO {w : World} {b : Nat} {A : Option Addr} {n c : Nat} {l : List UInt8} (h : Got w b (.slice A n c) l) : RdF w (fun k => (Value.slice A n c).ownBlock = some k) A (cells l) := fun h0 => by
 obtain ⟨A', c', hv, _, _, hr⟩ := h.shape;injection hv with e1 e2 _
 subst e1;obtain ⟨ad, e4, hlt, hc⟩ := hr h0;rcases h.row with h1 | ⟨g', n', cap', cur, h1, _, hB, _⟩
 ·injection h1 with h1 _ _
  rw [h1] at e4; cases e4
 injection h1 with h1 _ _
 rw [h1] at e4;injection e4 with e4
 subst e4 h1;exact ⟨g', 0, rfl, rfl, hB.lt, fun j u hu => by rw [<- add_lit]; exact hc j u hu⟩
theorem aJ2.keepB {W W' : World} {G : Nat -> Prop} {nE gj g : Nat} {dv : Value} {vs : List Value} {al : List aC3} (h : aJ2 W G nE gj g dv vs al) (hs : W.heap.size <= W'.heap.size) (hk : ∀ x, G x ∨ dv.ownBlock = some x -> W'.heap[x]? = W.heap[x]?) : aJ2 W' G nE gj g dv vs al :=
 ⟨aR9 h.own (fun r hr => hk r (.inr hr)), h.len, fun i h1 h2 => (h.acts i h1 h2).keep hs (fun x hx => hk x (.inl hx)), h.fns, fun x hx => Nat.lt_of_lt_of_le (h.lt x hx) hs, h.apart⟩
theorem cO4 {w : World} {nE b : Nat} {Ae : Option Addr} {ce : Nat} {ends : List Int} (hc : w.cell? ⟨b, 4, none⟩ = some (.slice Ae ends.length ce)) (ho : Own w nE 3 (.slice Ae ends.length ce) (ends.map (Value.int .i64))) (a8 : ends ≠ []) (hl : ends.length <= 1099511627776) :
  Calls Tryz.prog 56 #[.pointer (some ⟨b, 0, none⟩)] w fun e w' => e = .returned (.int .i64 (ends.getLastD 0)) ∧ Below w.heap.size w w' := by
 rcases mJ ends with h0 | ⟨r, x, hr⟩
 ·exact absurd h0 a8
 rw [mA] at hr;subst hr;obtain ⟨eb, eo, rfl, _, a9, a7⟩ := RdF.of_own (F := fun _ => True) ho (fun _ _ _ => trivial) (by simp);have e0 := a7 r.length (.int .i64 x) (by simp);have hx : (r ++ [x]).getLastD 0 = x := by simp
 rw [hx];rw [lT] at hc hl;simp at hl
 exact bY8 b 0 r.length eb eo ce x (by omega) w hc e0
section
variable {W W' : World} {F F' : Nat -> Prop} {wz nE gj g : Nat} {rv dv : Value} {vs : List Value} {G : Nat -> Prop} {al : List aC3} {adsP : List Addr} {ssP : List aB1} {FP : Nat -> Prop} {tb : Nat} {s0 : aB1} {rsT : List aD8} {vl ve bv : Value} {bh : List UInt8}
theorem aF1.bytesG {bv' : Value} {bh' : List UInt8} (h : aF1 W F wz nE gj g rv dv vs G al adsP ssP FP tb s0 rsT vl ve bv bh) (hF : ∀ q, F q -> q < W.heap.size ∧ bv.ownBlock ≠ some q) (hg : W.grownBy W' bv.ownBlock) (hG : Got W' nE bv' bh') (hf : ∀ k, bv'.ownBlock = some k -> bv.ownBlock = some k ∨ W.heap.size <= k) : aF1 W' F wz nE gj g rv dv vs G al adsP ssP FP tb s0 rsT vl ve bv' bh' := by
 have hb := fun x (hx : bv.ownBlock = some x) => h.wr x (.inr (.inr (.inr (.inr (.inl hx)))))
 refine ⟨h.acts.other hg (aS0 h.acts.own h.bytes (by decide)) (fun r hr => (hb r hr).1), Own.kept h.row hg (aS0 h.row h.bytes (by decide)), h.len, fun i h1 h2 => (h.seg i h1 h2).keep hg.size (fun q hq => hg.block q (h.fl q hq).1 (fun e => (hb q e.symm).2 hq)), fun x hx => ⟨Nat.lt_of_lt_of_le (h.fl x hx).1 hg.size, (h.fl x hx).2⟩, h.gl, h.tgt.keep hg.size (fun k hk => hg.block k (hF k hk).1 (fun e => (hF k hk).2 e.symm)) hg (fun e => ?_) (aS0 h.tgt.ents h.bytes (by decide)) (aS0 h.tgt.ends h.bytes (by decide)), hG, fun x hx => ?_, h.num⟩
 ·obtain ⟨cs, hB⟩ := h.bytes.kind tb e
  exact blk_ne hB h.tgt.blk (by decide) rfl
 rcases hx with hx | hx | hx | hx | hx | hx
 ·exact h.wr x (.inl hx)
 ·exact h.wr x (.inr (.inl hx))
 ·exact h.wr x (.inr (.inr (.inl hx)))
 ·exact h.wr x (.inr (.inr (.inr (.inl hx))))
 ·rcases hf x hx with h1 | h1
  ·exact hb x h1
  exact ⟨fun h2 => by have := h.acts.lt x h2; omega, fun h2 => by have := (h.fl x h2).1; omega⟩
 exact h.wr x (.inr (.inr (.inr (.inr (.inr hx)))))
theorem aF1.entG {W1 W2 W3 W4 : World} {vl' ve' : Value} {q : aD8} {n : Int} (h : aF1 W F wz nE gj g rv dv vs G al adsP ssP FP tb s0 rsT vl ve bv bh) (hF : ∀ x, F x -> x < W.heap.size ∧ x ≠ tb ∧ vl.ownBlock ≠ some x ∧ ve.ownBlock ≠ some x) (hd : bB7 W F q.v q.e.b)
  (g7 : Below W.heap.size W W1) (g8 : W1.grownBy W2 vl.ownBlock) (b8 : W2.ownsRow nE 65 4 vl' (rsT.length + 1) (aA7 rsT ++ aM6 q)) (l4 : aS5 vl' vl.ownBlock W1.heap.size)
  (f7 : Below W2.heap.size W2 W3) (g9 : W3.grownBy W4 ve.ownBlock) (a7 : Own W4 nE 3 ve' (s0.ends.map (Value.int .i64) ++ [.int .i64 n])) (l5 : aS5 ve' ve.ownBlock W3.heap.size)
  (i4 : 0 <= n ∧ n <= 4611686018427387904) (he : (-9223372036854775808 <= q.e.ix ∧ q.e.ix <= 9223372036854775807) ∧ (-9223372036854775808 <= q.e.tm ∧ q.e.tm <= 9223372036854775807) ∧ (-9223372036854775808 <= q.e.kd ∧ q.e.kd <= 9223372036854775807)) (i1 : s0.l.length + 1 <= 103000000) (ht : q.e.b.length <= 65535) :
  aF1 ((W4.setCell ⟨tb, 3, none⟩ vl').setCell ⟨tb, 4, none⟩ ve') F wz nE gj g rv dv vs G al adsP ssP FP tb { s0 with l := s0.l ++ [q.e], ends := s0.ends ++ [n] } (rsT ++ [q]) vl' ve' bv bh := by
 have l9 := g7.size;have m0 := g8.size;have m2 := f7.size;have m3 := g9.size;obtain ⟨W6, g6⟩ : ∃ X, X = (W4.setCell ⟨tb, 3, none⟩ vl').setCell ⟨tb, 4, none⟩ ve' := ⟨_, rfl⟩
 have f8 : W4.grownBy W6 (some tb) := by rw [g6]; exact aB8 (aA0 W4 tb 3 _) (aA0 _ tb 4 _) (.inl rfl)
 rw [<- g6];have m4 := f8.size;have l6 := h.tgt.blk.lt;have l8 := fun x e => (World.ownsRow.lt h.tgt.ents x e).2
 have l7 := fun x e => (World.ownsRow.lt h.tgt.ends x e).2
 have k4 : ∀ x, x < W.heap.size -> vl.ownBlock ≠ some x -> ve.ownBlock ≠ some x -> W4.heap[x]? = W.heap[x]? := fun x h1 h2 h3 =>
  (g9.block x (by omega) (fun e => h3 e.symm)).trans ((f7.block x (by omega)).trans ((g8.block x (by omega) (fun e => h2 e.symm)).trans (g7.block x h1)))
 have k6 : ∀ x, x < W.heap.size -> x ≠ tb -> vl.ownBlock ≠ some x -> ve.ownBlock ≠ some x -> W6.heap[x]? = W.heap[x]? := fun x h1 h2 h3 h4 =>
  (f8.block x (by omega) (fun e => h2 (by injection e))).trans (k4 x h1 h3 h4)
 have i2 : vl.ownBlock ≠ some tb := fun e => aB2 h.tgt.ents h.tgt.blk (by decide) e
 have i3 : ve.ownBlock ≠ some tb := fun e => aB2 h.tgt.ends h.tgt.blk (by decide) e
 have f9 : Blk W4 tb 104 #[.int .i64 s0.k, .int .i64 s0.first, .int .i64 s0.term, vl, ve] := (k4 tb l6 i2 i3).trans h.tgt.blk;have j9 : Blk W6 tb 104 #[.int .i64 s0.k, .int .i64 s0.first, .int .i64 s0.term, vl', ve'] := by rw [g6]; exact (f9.set_ 3 vl').set_ 4 ve'
 have i6 : W3.ownsRow nE 3 1 ve (s0.ends.map (Value.int .i64)).length (s0.ends.map (Value.int .i64)) := by
  have h1 := World.ownsRow.kept (World.ownsRow.kept (World.ownsRow.kept h.tgt.ends (aA5 g7 none) (by cases ve.ownBlock <;> simp)) g8 (jrow_type_ne h.tgt.ends h.tgt.ents (by decide))) (aA5 f7 none) (by cases ve.ownBlock <;> simp);exact h1
 have d8 := World.ownsRow.kept b8 (aA5 f7 none) (by cases vl'.ownBlock <;> simp);have e9 := World.ownsRow.kept d8 g9 (jrow_type_ne d8 i6 (by decide));have j8 := World.ownsRow.kept e9 f8 (by
  cases hq : vl'.ownBlock with
  | none => exact .inl rfl
  | some x => exact .inr (fun e => aB2 e9 f9 (by decide) (hq.trans e)))
 have j6 := Own.kept a7 f8 (by
  cases hq : ve'.ownBlock with
  | none => exact .inl rfl
  | some x => exact .inr (fun e => aB2 a7 f9 (by decide) (hq.trans e)))
 have kF : ∀ x, F x -> W6.heap[x]? = W.heap[x]? := fun x hx => k6 x (hF x hx).1 (hF x hx).2.1 (hF x hx).2.2.1 (hF x hx).2.2.2
 have kG : ∀ x, G x -> W6.heap[x]? = W.heap[x]? := fun x hx => k6 x (h.acts.lt x hx) (fun e => (h.wr tb (.inr (.inl rfl))).1 (e ▸ hx)) (fun e => (h.wr x (.inr (.inr (.inl e)))).1 hx) (fun e => (h.wr x (.inr (.inr (.inr (.inl e))))).1 hx)
 have kP : ∀ x, FP x -> W6.heap[x]? = W.heap[x]? := fun x hx => k6 x (h.fl x hx).1 (fun e => (h.wr tb (.inr (.inl rfl))).2 (e ▸ hx)) (fun e => (h.wr x (.inr (.inr (.inl e)))).2 hx) (fun e => (h.wr x (.inr (.inr (.inr (.inl e))))).2 hx)
 have kO : ∀ {e : TypeId} {size m : Nat} {v : Value} {xs : List Value}, W.ownsRow nE e size v m xs -> e ≠ 104 -> e ≠ 65 -> e ≠ 3 -> ∀ x, v.ownBlock = some x -> W6.heap[x]? = W.heap[x]? := fun {e size m v xs} ho h1 h2 h3 x hx => by
  refine k6 x (World.ownsRow.lt ho x hx).2 (fun e => aB2 ho h.tgt.blk h1 (e ▸ hx)) (fun e => ?_) (fun e => ?_)
  ·rcases jrow_type_ne ho h.tgt.ents h2 with h4 | h4
   ·rw [h4] at hx; cases hx
   exact h4 (hx.trans e.symm)
  rcases jrow_type_ne ho h.tgt.ends h3 with h4 | h4
  ·rw [h4] at hx; cases hx
  exact h4 (hx.trans e.symm)
 have a8 : W.heap.size <= W6.heap.size := by omega
 refine ⟨h.acts.keepB a8 (fun x hx => hx.elim (kG x) (fun hx => kO h.acts.own (by decide) (by decide) (by decide) x hx)), aR9 h.row (fun x hx => kO h.row (by decide) (by decide) (by decide) x hx), h.len, fun i h1 h2 => (h.seg i h1 h2).keep a8 kP, fun x hx => ⟨Nat.lt_of_lt_of_le (h.fl x hx).1 a8, (h.fl x hx).2⟩, h.gl, ⟨j9, h.tgt.low, ?_, by rw [mE, h.tgt.map]; rfl, fun p hp => ?_, by rw [mE]; exact j6⟩, h.bytes.kept (fun x hx => ?_) a8, fun x hx => ?_, ⟨⟨h.num.1.k, h.num.1.first, h.num.1.term, fun e hx => ?_, fun m hm => ?_⟩, ?_, ?_, fun e hx => ?_, h.num.2.2.2.2⟩⟩
 ·rw [lT, aJ6]
  have e : aA7 [q] = aM6 q := by unfold aA7; simp
  rw [e];exact j8
 ·rcases List.mem_append.1 hp with hp | hp
  ·exact (h.tgt.dat p hp).keep a8 kF
  rw [List.mem_singleton.1 hp]; exact hd.keep a8 kF
 ·obtain ⟨cs, hB⟩ := h.bytes.kind x hx
  exact k6 x (h.bytes.row.lt x hx) (blk_ne hB h.tgt.blk (by decide)) (aB2 h.tgt.ents hB (by decide)) (aB2 h.tgt.ends hB (by decide))
 ·have a9 : ∀ y, W.heap.size <= y -> ¬ G y ∧ ¬ FP y := fun y hy => ⟨fun h2 => by have := h.acts.lt y h2; omega, fun h2 => by have := (h.fl y h2).1; omega⟩
  rcases hx with hx | hx | hx | hx | hx | hx
  ·exact h.wr x (.inl hx)
  ·exact h.wr x (.inr (.inl hx))
  ·rcases l4 with e | ⟨y, e, hy⟩
   ·exact h.wr x (.inr (.inr (.inl (e ▸ hx))))
   rw [hx] at e;injection e with e
   exact a9 x (by omega)
  ·rcases l5 with e | ⟨y, e, hy⟩
   ·exact h.wr x (.inr (.inr (.inr (.inl (e ▸ hx)))))
   rw [hx] at e;injection e with e
   exact a9 x (by omega)
  ·exact h.wr x (.inr (.inr (.inr (.inr (.inl hx)))))
  exact h.wr x (.inr (.inr (.inr (.inr (.inr hx)))))
 ·rcases List.mem_append.1 hx with hx | hx
  ·exact h.num.1.ent e hx
  rw [List.mem_singleton.1 hx]; exact he
 ·rcases List.mem_append.1 hm with hm | hm
  ·exact h.num.1.ends m hm
  rw [List.mem_singleton.1 hm]; exact i4
 ·show (s0.ends ++ [n]).length = (s0.l ++ [q.e]).length + 1
  rw [lT, lT, h.num.2.1]
  rfl
 ·show (s0.l ++ [q.e]).length <= _
  rw [lT];exact i1
 rcases List.mem_append.1 hx with hx | hx
 ·exact h.num.2.2.2.1 e hx
 rw [List.mem_singleton.1 hx]; exact ht
theorem aF1.segsAt (h : aF1 W F wz nE gj g rv dv vs G al adsP ssP FP tb s0 rsT vl ve bv bh) (hF : ∀ q, F q -> q < W.heap.size ∧ rv.ownBlock ≠ some q) : aH7 W (fun x => FP x ∨ F x ∨ x = tb ∨ vl.ownBlock = some x ∨ ve.ownBlock = some x) nE rv (adsP ++ [⟨tb, 0, none⟩]) (ssP ++ [s0]) := by
 refine ⟨h.row, by rw [lT, lT, h.len]; rfl, fun i h1 h2 => ?_, fun x hx => ?_, fun r hr hx => ?_⟩
 ·by_cases hi : i < adsP.length
  ·rw [List.getElem_append_left hi, List.getElem_append_left (by rw [<- h.len]; exact hi)]
   exact (h.seg i hi _).mono (fun x hx => .inl hx)
  have e : i = adsP.length := by rw [lT] at h1; simp at h1; omega
  subst e;have e2 : (ssP ++ [s0])[adsP.length] = s0 := by simp [h.len]
  rw [e2];simp only [List.getElem_concat_length];exact (h.tgt.segMx h.num.1 h.num.2.1 (by have := h.num.2.2.1; omega) h.num.2.2.2.1).mono (fun x hx => .inr hx)
 ·rcases hx with hx | hx | hx | hx | hx
  ·exact (h.fl x hx).1
  ·exact (hF x hx).1
  ·rw [hx]; exact h.tgt.blk.lt
  ·exact (World.ownsRow.lt h.tgt.ents x hx).2
  exact (World.ownsRow.lt h.tgt.ends x hx).2
 rcases hx with hx | hx | hx | hx | hx
 ·exact (h.wr r (.inl hr)).2 hx
 ·exact (hF r hx).2 hr
 ·exact aB2 h.row h.tgt.blk (by decide) (hx ▸ hr)
 ·rcases jrow_type_ne h.row h.tgt.ents (by decide) with h2 | h2
  ·rw [h2] at hr; cases hr
  exact h2 (hr.trans hx.symm)
 rcases jrow_type_ne h.row h.tgt.ends (by decide) with h2 | h2
 ·rw [h2] at hr; cases hr
 exact h2 (hr.trans hx.symm)
theorem aF1.dvFar (h : aF1 W F wz nE gj g rv dv vs G al adsP ssP FP tb s0 rsT vl ve bv bh) (hF : ∀ q, F q -> dv.ownBlock ≠ some q) : ∀ x, ((FP x ∨ F x ∨ x = tb ∨ vl.ownBlock = some x ∨ ve.ownBlock = some x) ∨ rv.ownBlock = some x) -> dv.ownBlock ≠ some x := fun x hx e => by
 have hne : ∀ {e1 : TypeId} {size m : Nat} {v : Value} {xs : List Value}, W.ownsRow nE e1 size v m xs -> 98 ≠ e1 -> v.ownBlock = some x -> False := fun ho ht hv => by
  rcases jrow_type_ne h.acts.own ho ht with h2 | h2
  ·rw [h2] at e; cases e
  exact h2 (e.trans hv.symm)
 rcases hx with (hx | hx | hx | hx | hx) | hx
 ·exact (h.wr x (.inr (.inr (.inr (.inr (.inr e)))))).2 hx
 ·exact hF x hx e
 ·exact aB2 h.acts.own h.tgt.blk (by decide) (hx ▸ e)
 ·exact hne h.tgt.ents (by decide) hx
 ·exact hne h.tgt.ends (by decide) hx
 exact hne h.row (by decide) hx
theorem aF1.from_ (h : aF1 W F wz nE gj g rv dv vs G al adsP ssP FP tb s0 rsT vl ve bv bh) {F0 : Nat -> Prop} (hF : ∀ q, F q -> F0 q ∨ nE <= q) : ∀ x, ((FP x ∨ F x ∨ x = tb ∨ vl.ownBlock = some x ∨ ve.ownBlock = some x) ∨ rv.ownBlock = some x) -> F0 x ∨ nE <= x := fun x hx => by
 rcases hx with (hx | hx | hx | hx | hx) | hx
 ·rcases (h.fl x hx).2 with h1 | h1
  ·exact hF x h1
  exact .inr h1
 ·exact hF x hx
 ·exact .inr (hx ▸ h.tgt.low)
 ·exact .inr (World.ownsRow.lt h.tgt.ents x hx).1
 ·exact .inr (World.ownsRow.lt h.tgt.ends x hx).1
 exact .inr (h.row.lt x hx).1
end
end
section
open Go.RowKit Go.Maps Oct
def dE0 (nw : Bool) (k : Int) (hd : List UInt8) : List aC3 := if nw = true then [.app (aA1 k) hd, .sync (aA1 k)] else []
theorem dN5 {j : JnP} {ix t : Int} (h : ∀ s ∈ j.segs, 1 <= s.k ∧ s.k <= 999999999) : 1 <= (bR0 j ix t).k ∧ (bR0 j ix t).k <= 1000000000 := by
 unfold bR0;rcases mJ j.segs with h0 | ⟨r, x, h0⟩
 ·rw [h0]; simp
 rw [mA] at h0;have := h x (by rw [h0]; simp);rw [h0];simp only [List.getLast?_append, List.getLast?_singleton, Option.some_or];omega
theorem dA3 {j : JnP} {ix t tv : Int} (h : tv = (bV5 j ix).getD 0) : cZ9 j ix t ↔ ix < j.base.1 ∨ 9223372036854775805 < ix ∨ t < 0 ∨ (ix = j.base.1 ∧ tv ≠ t) := by
 have e : ix = j.base.1 -> (aW4 j ix).getD 0 = tv := fun e => by
  rw [h];unfold aW4 bV5;rw [if_pos e.symm, if_pos e.symm]
 unfold cZ9;show _ ∨ 9223372036854775807 - 2 < ix ∨ _ ∨ _ ↔ _
 constructor
 ·rintro (h1 | h1 | h1 | ⟨h1, h2⟩)
  ·exact .inl h1
  ·exact .inr (.inl (by omega))
  ·exact .inr (.inr (.inl h1))
  exact .inr (.inr (.inr ⟨h1, by rw [<- e h1]; exact h2⟩))
 rintro (h1 | h1 | h1 | ⟨h1, h2⟩)
 ·exact .inl h1
 ·exact .inr (.inl (by omega))
 ·exact .inr (.inr (.inl h1))
 exact .inr (.inr (.inr ⟨h1, by rw [e h1]; exact h2⟩))
theorem dJ9 {j : JnP} {ix t tv : Int} {isv : Bool} {R : Option Int} (hR : R = aW4 j ix) (h : tv = R.getD 0) (hi : isv = R.isSome) : cW9 j ix t = (decide (j.last.1 < ix) || (isv && (tv != t))) := by
 unfold cW9;rw [<- hR, h, hi];cases R with
 | none => rfl
 | some x => simp [bne, BEq.beq]
theorem bE8 {w : World} {base g m gj : Nat} {F : Nat -> Prop} {d : DkD} {j : JnP} {es : List (Nm × FE)} (h : JnK w base g m gj F d j es) (D1 : base <= w.heap.size) {L : Nat} (V3 : JDk L d) (hL : L <= 100000000000) (hE : ∀ w', Below base w w' -> Tab w') (Q4 : j.segs.length <= 999999999) (t7 : ∀ s ∈ j.segs, 1 <= s.k ∧ s.k <= 999999999)
  (ix t : Int) (U8 : -9223372036854775808 <= ix ∧ ix <= 9223372036854775807) (ht : -9223372036854775808 <= t ∧ t <= 9223372036854775807) :
  Calls Tryz.prog 17 #[.pointer (some ⟨gj, 0, none⟩), .int .i64 ix, .int .i64 t] w fun e w' => cC5 w base g m gj es F (aF8 j d ix t) e w' := by
 have O4 := h.jn.lt;have G9 : ∀ k, F k -> k < w.heap.size := fun k hk => (h.apart k hk).2.1
 have i1 := qZ h.jn.base;have p8 := qZ (fun w' (hb : Below w.heap.size w w') => (h.jn.below G9 hb).last);have i6 := qZ (fun w' (hb : Below w.heap.size w w') => cV4 (h.jn.below G9 hb) (fun k hk => by have := G9 k hk; have := hb.size; omega) ix U8);have aB := JnP.base_low h.jn;obtain ⟨ba, O3⟩ : ∃ x, x = j.base.1 := ⟨_, rfl⟩
 obtain ⟨bt, U2⟩ : ∃ x, x = j.base.2 := ⟨_, rfl⟩
 obtain ⟨la, O8⟩ : ∃ x, x = j.last.1 := ⟨_, rfl⟩
 obtain ⟨lt, O9⟩ : ∃ x, x = j.last.2 := ⟨_, rfl⟩
 obtain ⟨tv, M0⟩ : ∃ x, x = (bV5 j ix).getD 0 := ⟨_, rfl⟩
 obtain ⟨W7, C1⟩ : ∃ x, x = (bV5 j ix).isSome := ⟨_, rfl⟩
 have B7 := dA3 (t := t) M0;have j8 : ∀ s ∈ j.segs, 0 <= s.first ∧ s.first <= 9223372036854775806 := by
  obtain ⟨⟨A, c, q6, h1, h2, h3, h4, h5⟩, h6, _⟩ := h.jn;intro s hs;obtain ⟨i, hi, rfl⟩ := List.getElem_of_mem hs;exact (h5 i (by omega) hi).rd.num.first
 have J4 : -1 <= ix -> cW9 j ix t = (decide (la < ix) || (W7 && (tv != t))) := fun h1 => by rw [O8]; exact dJ9 (dF7 j8 h1 U8.2) M0 C1
 rw [<- O3] at B7 aB;rw [<- O3, <- U2] at i1;have i2 : Hid (∀ w', Below w.heap.size w w' -> Calls Tryz.prog 40 #[.pointer (some ⟨gj, 0, none⟩)] w' fun e w2 => e = .returned (.tuple #[.int .i64 la, .int .i64 lt]) ∧ Below w'.heap.size w' w2) := qZ (fun w' hb => by rw [O8, O9]; exact p8.out w' hb);rw [<- M0, <- C1] at i6;obtain ⟨jb, O5⟩ : ∃ x, x = j.bad := ⟨_, rfl⟩
 obtain ⟨⟨A, c, q6, h1, h2, h3, h4, h5⟩, h6, J6⟩ := h.jn;rw [<- O5] at h1;obtain ⟨nl, L8⟩ : ∃ n, n = j.segs.length := ⟨_, rfl⟩
 rw [<- L8] at h2 h4 h6 Q4;have HJ : Hid (Blk w gj 53 #[.int .i64 j.term, .int .i64 j.vote, .slice A nl c, .pointer (some ⟨g, 0, none⟩), .int .i64 jb]) := qZ (by rw [L8]; exact h1);have S6 := qZ h3;have S7 := qZ h5;have HH := qZ h;have S5 := qZ V3;have HE := qZ hE;have S3 := qZ t7;have E6 := qZ O5;have i3 := qZ L8;have g9 := qZ h4;have m5 := qZ B7;have n8 := qZ J4;have n9 := qZ J6;have E2 := qZ G9;clear h h1 h3 h4 h5 h6 V3 hE t7 O5 L8 B7 J4 J6 G9 p8 O3 U2 O8 O9 M0 C1 j8;go_enter Tryz.func17, Tryz.ntmps17
 go_wp2_with fail
 refine i1.out.mono ?_;rintro e w1 ⟨rfl, O0⟩;have M7 := qZ O0;have S4 := qZ (i2.out w1 O0);clear O0 i1 i2;go_wp2_with fail
 refine S4.out.mono ?_;rintro e w2 ⟨rfl, T9⟩;have K3 := qZ (M7.out.trans (T9.mono M7.out.size));have S9 := qZ (i6.out w2 K3.out);clear T9 S4 M7 i6;go_wp2_with fail
 refine S9.out.mono ?_;rintro e w3 ⟨rfl, U0⟩;have m4 := qZ (K3.out.trans (U0.mono K3.out.size));have Q0 := m4.out.size;clear U0 S9 K3;have N4 := qZ (HJ.out.below m4.out O4);have j4 : w3.cell? ⟨gj, 4, none⟩ = some (.int .i64 jb) := N4.out.cell 4;by_cases hb : jb = 0
 rotate_left
 ·have aC : (jb != 0) = true := bne_iff_ne.2 hb
  have HR := qZ (show aF8 j d ix t = (jb, j, d) by rw [aK6, if_pos (by rw [<- E6.out]; exact hb), E6.out]);clear hb n8 m5;go_wp2_with fail
  go_ret
  exact HH.out.same m4.out HR.out
 subst hb;by_cases hbc : cZ9 j ix t
 ·have HR := qZ (show aF8 j d ix t = (1, j, d) by rw [aK6, if_neg (by rw [<- E6.out]; simp), if_pos hbc])
  have HC := qZ (m5.out.1 hbc);clear hbc n8;by_cases h1 : ix < ba
  ·go_wp2_with fail
   go_ret
   exact HH.out.same m4.out HR.out
  by_cases h2 : 9223372036854775805 < ix
  ·go_wp2_with fail
   go_ret
   exact HH.out.same m4.out HR.out
  by_cases h3 : t < 0
  ·go_wp2_with fail
   go_ret
   exact HH.out.same m4.out HR.out
  have h4 : ix = ba ∧ tv ≠ t := by
   rcases HC.out with h | h | h | h
   ·exact absurd h h1
   ·exact absurd h h2
   ·exact absurd h h3
   exact h
  have h5 : (ix == ba) = true := beq_iff_eq.2 h4.1;have h6 : (tv != t) = true := bne_iff_ne.2 h4.2;clear h4 HC;go_wp2_with fail
  go_ret
  exact HH.out.same m4.out HR.out
 have J3 := fun h => hbc (m5.out.2 h)
 have h1 : ¬ ix < ba := fun h => J3 (.inl h)
 have h2 : ¬ 9223372036854775805 < ix := fun h => J3 (.inr (.inl h))
 have h3 : ¬ t < 0 := fun h => J3 (.inr (.inr (.inl h)))
 have h4 : ¬ (ix = ba ∧ tv ≠ t) := fun h => J3 (.inr (.inr (.inr h)))
 have HR := qZ (show aF8 j d ix t = aQ3 j d ix t (cW9 j ix t) (bR0 j ix t) by rw [aK6, if_neg (by rw [<- E6.out]; simp), if_neg hbc]);have l7 := qZ (n8.out (by omega));clear J3 hbc m5 n8;go_upto_region 9 with fail
 go_cut [52] from 60 to 67 (fun c wx => c = .bool false ∧ wx = w3)
 case first =>
  by_cases h5 : ix = ba
  ·have h6 : (ix == ba) = true := beq_iff_eq.2 h5
   have h7 : (tv != t) = false := by rw [bne_eq_false_iff_eq]; exact Classical.byContradiction fun h => h4 ⟨h5, h⟩
   clear h4 h5;go_wp2_with fail
   go_meet;exact ⟨rfl, rfl⟩
  have h6 : (ix == ba) = false := beq_eq_false_iff_ne.2 h5;clear h4 h5;go_wp2_with fail
  go_meet;exact ⟨rfl, rfl⟩
 obtain ⟨rfl, rfl⟩ := hcut;have j2 : wc.cell? ⟨gj, 2, none⟩ = some (.slice A nl c) := N4.out.cell 2;have Q9 := qZ (bK5 A nl c (q6.map fun a => .pointer (some a)) wc ((S6.out.rd.below m4.out).more Q0) (by rw [lU, g9.out]; omega) (fun u hu => by obtain ⟨a, _, rfl⟩ := List.mem_map.1 hu; rfl) (by omega));clear j4 h4;go_wp2_with fail
 refine Q9.out.mono ?_;rintro e w4 ⟨v4, rfl, f7, U1⟩;obtain ⟨A4, c4, aT, k1, k2, _⟩ := aC2 f7;subst aT;have C5 := qZ (m4.out.trans (U1.mono Q0));have V5 := C5.out.size;have z7 : Hid (aH7 w4 F w.heap.size (.slice A4 nl c4) q6 j.segs) := qZ ⟨by
   unfold Own;rw [lU, g9.out];exact aZ1 f7 Q0, by rw [g9.out, i3.out], fun i h1 h2 => (S7.out i h1 h2).keep V5 (fun k hk => C5.out.block k (E2.out k hk)), fun k hk => by have := E2.out k hk; omega, fun r hr hf => by have := (World.ownsRow.lt f7 r hr).1; have := E2.out r hf; omega⟩
 clear f7 U1 Q9 j2 S6 S7 N4;obtain ⟨nw, J7⟩ : ∃ b, b = cW9 j ix t := ⟨_, rfl⟩
 rw [<- J7] at HR l7;have Y1 := qZ J7;clear J7;go_upto_region 14 with fail
 go_cut [84] from 74 to 84 (fun c wx => c = .bool nw ∧ wx = w4)
 case first =>
  by_cases h5 : la < ix
  ·have hn : nw = true := by rw [l7.out]; simp [h5]
   subst hn;clear l7;go_wp2_with fail
   go_meet;exact ⟨rfl, rfl⟩
  cases W7 with
  | false =>
   have hn : nw = false := by rw [l7.out]; simp [h5]
   subst hn;clear l7;go_wp2_with fail
   go_meet;exact ⟨rfl, rfl⟩
  | true =>
   by_cases h6 : tv = t
   ·have h7 : (tv != t) = false := by rw [bne_eq_false_iff_eq]; exact h6
    have hn : nw = false := by rw [l7.out, h7]; simp [h5]
    subst hn;clear l7 h6;go_wp2_with fail
    go_meet;exact ⟨rfl, rfl⟩
   have h7 : (tv != t) = true := bne_iff_ne.2 h6;have hn : nw = true := by rw [l7.out, h7]; simp
   subst hn;clear l7 h6;go_wp2_with fail
   go_meet;exact ⟨rfl, rfl⟩
 obtain ⟨rfl, rfl⟩ := hcut;clear l7;go_upto_if 84 with fail
 obtain ⟨sN, L9⟩ : ∃ s, s = bR0 j ix t := ⟨_, rfl⟩
 obtain ⟨hd, U7⟩ : ∃ l, l = aE4 (ix + 1) t := ⟨_, rfl⟩
 have z9 := qZ L9;have E5 := qZ U7;clear L9 U7;go_cut [13, 14, 15] from 85 to 146 (fun c13 G6 c15 wx => ∃ (A5 : Option Addr) (c5 fr : Nat) (dv : Value) (ss : List aB1) (d8 : List Addr) (vs : List Value) (F5 G : Nat -> Prop), c13 = .slice A5 ss.length c5 ∧ G6 = dv ∧ c15 = .int .i64 fr ∧ ss.length <= 1000000000 ∧ fr <= ss.length ∧ vs.length <= 2 ∧ Hid (ss = (if nw = true then j.segs ++ [sN] else j.segs) ∧ fr = (if nw = true then j.segs.length else 0) ∧ (nw = true -> ¬ 999999999 < sN.k ∧ ¬ d.free < (hd.length : Int) ∧ hd.length <= 1048600)) ∧ Hid (Below w.heap.size w wx) ∧ Hid (aH7 wx F5 w.heap.size (.slice A5 ss.length c5) d8 ss) ∧ Hid (aJ2 wx G w.heap.size gj g dv vs (dE0 nw sN.k hd)) ∧ Hid ((∀ r, (Value.slice A5 ss.length c5).ownBlock = some r -> ¬ G r) ∧ (∀ r, dv.ownBlock = some r -> ¬ F5 r) ∧ (∀ x, G x -> w.heap.size <= x) ∧ (∀ x, F5 x -> F x ∨ w.heap.size <= x)))
 case first =>
  cases nw with
  | false =>
   go_wp2_with fail
   go_meet;refine ⟨A4, c4, 0, .slice none 0 0, j.segs, q6, [], F, fun _ => False, by rw [i3.out], rfl, rfl, by rw [<- i3.out]; omega, by omega, by simp, qZ ⟨rfl, rfl, (fun h => by cases h)⟩, C5, qZ (by rw [<- i3.out]; exact z7.out), qZ aJ2.nil, qZ ⟨(fun _ _ h => h), (fun r hr => by cases hr), (fun _ h => h.elim), (fun x hx => .inl hx)⟩⟩
  | true =>
   have aV : IntKind.i64.wrap (ix + 1) = ix + 1 := mH _ (by omega);obtain ⟨wA, M2⟩ : ∃ W, W = wc.alloc (.cells #[.int .i64 1, .int .i64 (ix + 1), .int .i64 t, .slice none 0 0, .slice none 0 0] 104) := ⟨_, rfl⟩
   have p0 : Below wc.heap.size wc wA := by rw [M2]; exact (lS _ wc).alloc (lR _) _
   have J0 : Blk wA wc.heap.size 104 #[.int .i64 1, .int .i64 (ix + 1), .int .i64 t, .slice none 0 0, .slice none 0 0] := by rw [M2]; exact Blk.new wc _ _
   obtain ⟨sb, J9⟩ : ∃ n, n = wc.heap.size := ⟨_, rfl⟩
   rw [<- J9] at p0 J0;have D8 := qZ p0;have K7 := qZ J0;have T3 := qZ M2;have N6 := qZ J9;have Q3 : w.heap.size <= sb := by omega
   have V8 := p0.size;have Q2 := J0.lt;have aW := J0.frozen 0;have C8 := qZ (fun wx (hb : Below sb wc wx) => And.intro (C5.out.trans (hb.mono Q3)) (z7.out.below (J9 ▸ hb)));have Y7 := qZ (show ∀ r, (Value.slice A4 nl c4).ownBlock = some r -> r < sb from fun r hr => by rw [J9]; exact (z7.out.own.lt r hr).2);have K8 := qZ (show 1 <= sN.k ∧ sN.k <= 1000000000 by rw [z9.out]; exact dN5 S3.out);clear M2 p0 J0 J9 V5;go_upto_region 16 with fail
   rw [<- T3.out, <- N6.out];go_upto_if 92 with fail
   go_cut [] from 90 to 105 (fun wx => Hid (Below sb wc wx) ∧ Hid (Blk wx sb 104 #[.int .i64 sN.k, .int .i64 (ix + 1), .int .i64 t, .slice none 0 0, .slice none 0 0]))
   case first =>
    by_cases h0 : nl = 0
    ·have C2 : sN.k = 1 := by
      have h1 : j.segs = [] := mD (by rw [<- i3.out]; exact h0);rw [z9.out];unfold bR0;rw [h1]
      rfl
     have X6 := qZ C2;have bD : ¬ (0 : Int) < (nl : Int) := by omega
     clear C2 h0;go_wp2_with fail
     go_meet;exact ⟨D8, qZ (by rw [X6.out]; exact K7.out)⟩
    obtain ⟨lm, hm⟩ : ∃ lm, lm = nl - 1 := ⟨_, rfl⟩
    have P1 : lm < nl := by omega
    have P2 : (lm : Int) < (nl : Int) := by omega
    have aQ : (nl : Int) - 1 = (lm : Int) := by omega
    have bJ : IntKind.i64.wrap (lm : Int) = (lm : Int) := mH _ (by omega);have aI : (0 : Int) < (nl : Int) := by omega
    have P0 : lm < j.segs.length := by rw [<- i3.out]; exact P1
    have V2 : lm < q6.length := by rw [g9.out]; exact P1
    have j9 : sN.k = j.segs[lm].k + 1 := by
     rw [z9.out];unfold bR0;have e : j.segs.getLast? = some j.segs[lm] := by
      rw [List.getLast?_eq_getElem?, <- i3.out, <- hm, lW P0]
     rw [e]
    have V1 := S3.out j.segs[lm] (lX P0);obtain ⟨ab, ao, e4, _, g8, q7⟩ := (RdF.of_own (F := fun _ => True) z7.out.own (fun _ _ _ => trivial)) (by rw [lU]; omega);subst e4;obtain ⟨b, o, Al, cl, rs, Ae, ce, I3, Z6, J2, d0, _⟩ := (z7.out.seg lm V2 P0).rd.cells;have e0 : wA.cell? ⟨ab, ao + lm, none⟩ = some (.pointer (some ⟨b, o, none⟩)) := (D8.out.cell (p := ⟨ab, ao + lm, none⟩) (by show ab < sb; rw [N6.out]; exact g8)).trans (q7 lm _ (by rw [List.getElem?_map, lW V2, I3]; rfl));obtain ⟨kl, V0⟩ : ∃ x, x = j.segs[lm].k := ⟨_, rfl⟩
    rw [<- V0] at d0 j9 V1;have f0 : wA.cell? ⟨b, o, none⟩ = some (.int .i64 kl) := (D8.out.cell (p := ⟨b, o, none⟩) (by show b < sb; rw [N6.out]; exact J2)).trans d0;have bI : IntKind.i64.wrap (kl + 1) = kl + 1 := mH _ (by omega);have s0 : wA.cell? ⟨sb, 0, none⟩ = some (.int .i64 1) := K7.out.cell 0;have X8 := qZ j9;clear hm j9 V1 q7 I3 d0 V0 h0;go_wp2_with fail
    go_meet;refine ⟨qZ (D8.out.grown (aA0 wA sb 0 (.int .i64 (kl + 1))) (by omega) (fun k hk => by injection hk with hk; omega)), qZ ?_⟩;rw [X8.out];exact K7.out.set_ 0 (.int .i64 (kl + 1))
   obtain ⟨C6, K5⟩ := hcut;clear D8 K7 T3 aW V8 Q2 z7 C5;have N3 := qZ (C8.out _ C6.out).1;have Y9 := qZ (C8.out _ C6.out).2;have U9 := K5.out.lt;have V6 := N3.out.size;have R9 := qZ (bY7 sb 0 (ix + 1) t (by omega) ht wc (K5.out.cell 1) (K5.out.cell 2) U9);go_wp2_with fail
   refine R9.out.mono ?_;rintro e w6 ⟨v6, rfl, L5, s9⟩;rw [<- E5.out] at L5;obtain ⟨A6, c6, aU, p1, p2, _⟩ := L5.shape;subst aU;have aH : hd.length <= 1048600 := by
    rw [E5.out];refine aF3 ?_;have h1 : (cC2 (ix + 1)).length <= 10 := by
     unfold cC2;split
     ·simp
     exact aM0 _ (by omega)
    have h2 : (aH1 [t]).length <= 10 := aI7 (z := [t]) (by intro n hn; obtain rfl := List.mem_singleton.1 hn; exact ht);rw [lT];omega
   have K4 := qZ L5;have V7 := s9.size;have O6 := K5.out.below s9 U9;have z6 := O6.frozen 4;obtain ⟨wI, D4⟩ : ∃ W, W = w6.alloc (.cells #[.int .i64 hd.length] 3) := ⟨_, rfl⟩
   have D0 : Below w6.heap.size w6 wI := by rw [D4]; exact (lS _ w6).alloc (lR _) _
   have P6 : Blk wI w6.heap.size 3 #[.int .i64 hd.length] := by rw [D4]; exact Blk.new w6 _ _
   have L6 := O6.below D0 (by omega);obtain ⟨rI, p5⟩ : ∃ n, n = w6.heap.size := ⟨_, rfl⟩
   rw [<- p5] at P6;have D3 := aA0 wI sb 4 (.slice (some ⟨rI, 0, none⟩) 1 1);obtain ⟨w7, M1⟩ : ∃ W, W = wI.setCell ⟨sb, 4, none⟩ (.slice (some ⟨rI, 0, none⟩) 1 1) := ⟨_, rfl⟩
   have K6 : Hid (Blk w7 sb 104 #[.int .i64 sN.k, .int .i64 (ix + 1), .int .i64 t, .slice none 0 0, .slice (some ⟨rI, 0, none⟩) 1 1]) := qZ (by rw [M1]; exact L6.set_ 4 _);rw [<- M1] at D3;have N5 := qZ (P6.grown D3 (by intro e; injection e with e; omega));have bG := D0.size;have B6 : Below sb w6 w7 := (D0.mono (by omega)).grown D3 (by omega) (fun k hk => by injection hk with hk; omega);have R6 := qZ ((K4.out.below D0 (lR _)).kept (fun q hq => D3.block q ((K4.out.below D0 (lR _)).row.lt q hq) (fun e => by injection e with e; have := K4.out.row.base q hq; omega)) D3.size);have M8 := qZ (C6.out.trans ((s9.mono (by omega)).trans B6));have sI : (w6.alloc (.cells #[.int .i64 hd.length] 3)).cell? ⟨sb, 4, none⟩ = some (.slice none 0 0) := by rw [<- D4]; exact L6.cell 4
   have zI : (w6.alloc (.cells #[.int .i64 hd.length] 3)).frozen? ⟨sb, 4, none⟩ = false := by rw [<- D4]; exact L6.frozen 4
   have T0 := qZ (show w7 = (w6.alloc (.cells #[.int .i64 hd.length] 3)).setCell ⟨sb, 4, none⟩ (.slice (some ⟨w6.heap.size, 0, none⟩) 1 1) by rw [M1, D4, p5]);have aM := B6.size;have P7 : rI < w7.heap.size ∧ wc.heap.size <= rI := ⟨N5.out.lt, by rw [p5]; exact V7⟩;clear L5 s9 O6 D4 D0 P6 L6 p5 D3 M1 B6 z6 R9 K4;go_upto_region 20 with fail
   rw [<- T0.out];have aY : w7.cell? ⟨sb, 0, none⟩ = some (.int .i64 sN.k) := K6.out.cell 0;have m6 := qZ (C8.out _ M8.out).1;have aX : w7.cell? ⟨gj, 3, none⟩ = some (.pointer (some ⟨g, 0, none⟩)) := (HJ.out.below m6.out O4).cell 3;clear sI zI T0;by_cases hmax : 999999999 < sN.k
   ·have Y4 := qZ (show aF8 j d ix t = (1, j, d) by rw [HR.out]; unfold aQ3; rw [<- z9.out, if_pos ⟨rfl, hmax⟩])
    go_wp2_with fail
    go_ret
    exact HH.out.same m6.out Y4.out
   have R8 := qZ (HH.out.below m6.out);have p4 := bH2 R8.out.disk (by rw [HH.out.fs]; have := S5.out.sz; omega);rw [HH.out.fs] at p4;obtain ⟨fr, B9⟩ : ∃ x, x = d.room - aB7 d.fs := ⟨_, rfl⟩
   rw [<- B9] at p4;have p7 := qZ p4;have R5 := qZ (show d.free = fr from B9.symm);clear p4 B9;go_wp2_with fail
   refine p7.out.mono ?_;rintro e w8 ⟨rfl, C9⟩;have aN := C9.size;have M9 := qZ (M8.out.trans (C9.mono (by omega)));have x7 := qZ (K6.out.below C9 K6.out.lt);have L0 := qZ (N5.out.below C9 P7.1);have x5 := qZ (R6.out.below C9 (lR _));have m7 := qZ (C8.out _ M9.out).1;clear C9 p7 M8 K6 N5 R6 m6 R8 aY aX HJ;by_cases hroom : fr < (hd.length : Int)
   ·have G4 := qZ (show aF8 j d ix t = (52, j, d) by rw [HR.out]; unfold aQ3; rw [<- z9.out, if_neg (fun h => by omega), if_pos ⟨rfl, by rw [R5.out, <- E5.out]; exact hroom⟩])
    go_wp2_with fail
    go_ret
    exact HH.out.same m7.out G4.out
   have P5 := aJ8 sN.k (by have := K8.out; omega);have S8 := qZ (HE.out w8 (m7.out.mono D1));have n7 := qZ (aN8 sb 0 sN.k (by have := K8.out; omega) w8 (x7.out.cell 0) S8.out);obtain ⟨nm, C3⟩ : ∃ n, n = aA1 sN.k := ⟨_, rfl⟩
   have K9 := qZ C3;rw [<- C3] at n7 P5;have G3 := qZ (And.intro hmax (show ¬ d.free < (hd.length : Int) by rw [R5.out]; exact hroom));have aG : gj < sb := by omega
   clear C3 S8 HR;go_wp2_with fail
   clear hroom hmax;refine n7.out.mono ?_;rintro e w9 ⟨rfl, L4⟩;have aO := L4.size;have R7 := qZ (x5.out.below L4 (lR _));have Q8 := qZ L4;clear L4 n7;go_wp2_with fail
   refine (show Calls _ _ _ w9 _ from cE5 (gj := gj) (g := g) nm (by omega) hd A6 c6 p1 (by omega) w9).mono ?_;rintro e Q6 ⟨vP, rfl, o9, ⟨FP, a7, rfl⟩, _, q9⟩;have J8 := o9.size;have f9 := qZ (R7.out.below o9 (lR _));have m2 := qZ (Q8.out.trans (o9.mono aO));have S0 := qZ (q9 (fun x => sb <= x ∧ x < Q6.heap.size) (fun x h1 h2 => ⟨by omega, h2⟩) (f9.out.rdR (fun x h1 h2 => ⟨by omega, h2⟩)));have E8 := qZ (x7.out.below m2.out x7.out.lt);have x8 := qZ (aN8 sb 0 sN.k (by have := K8.out; omega) Q6 (E8.out.cell 0) (HE.out Q6 ((m7.out.trans (m2.out.mono (by omega))).mono D1)));rw [<- K9.out] at x8;clear o9 q9 Q8 R7 x5 E8;go_wp2_with fail
   refine x8.out.mono ?_;rintro e W9 ⟨rfl, B2⟩;have P8 := B2.size;have D7 := qZ B2;clear B2 x8;go_wp2_with fail
   refine (show Calls _ _ _ W9 _ from bH9 (gj := gj) (g := g) nm (by omega) W9).mono ?_;rintro e a9 ⟨vS, rfl, B4, ⟨FS, a8, rfl⟩, _, r9⟩;have aJ := B4.size;have b8 := qZ (D7.out.trans (B4.mono P8));have m3 := qZ (m2.out.trans (b8.out.mono (by omega)));have S2 := qZ (r9 (fun x => sb <= x ∧ x < a9.heap.size) (fun x h1 h2 => ⟨by omega, h2⟩));have E7 := qZ ((S0.out.keep b8.out.size (fun x hx => b8.out.block x hx.2)).mono (E' := fun x => sb <= x ∧ x < a9.heap.size) (fun x hx => ⟨hx.1, by omega⟩));clear B4 r9 S0 D7 m2;have O2 : Below a9.heap.size a9 (a9.alloc (.cells #[.func (.func FP) #[] a7, .func (.func FS) #[] a8] 98)) := (lS _ a9).alloc (lR _) _;have bE := O2.size;have L1 := qZ (aG4 a9 98 [.func (.func FP) #[] a7, .func (.func FS) #[] a8]);have C7 := qZ O2;clear O2;go_upto_region 25 with (at_builtin; go_must (refine aB5 rfl (.tmp 129) (.tmp 139) 110 rfl w.heap.size 98 .nilFunc 8 Tryz.underlying110 aN2 rfl _ [] rfl (Own.nil _ _ _) (a9.heap.size + 1) (some ⟨a9.heap.size, 0, none⟩) 2 2 [.func (.func FP) #[] a7, .func (.func FS) #[] a8] rfl rfl L1.out (by simp [Value.oneCell']) (by unfold maxLen; simp) (by simp) (by omega) ?_; intro M3 m0 l4 I8 I5; have G0 := qZ l4; have m9 := qZ I8; have x4 := qZ I5; clear l4 I8 I5))
   have R3 : Hid (∀ r, M3.ownBlock = some r -> a9.heap.size < r) := qZ (fun r hr => by
    rcases x4.out with e | ⟨q, e, hq⟩
    ·rw [hr] at e; cases e
    rw [hr] at e;injection e with e
    have : (a9.alloc (.cells #[.func (.func FP) #[] a7, .func (.func FS) #[] a8] 98)).heap.size = a9.heap.size + 1 := by simp
    omega)
   have aK := m9.out.size;have j6 : Below a9.heap.size a9 m0 := (lS _ a9).trans ((C7.out.grown m9.out (by omega) (fun k hk => by cases hk)));have P9 := j6.size;have D5 : Hid (aJ2 m0 (fun x => sb <= x ∧ x < a9.heap.size) w.heap.size gj g M3 [.func (.func FP) #[] a7, .func (.func FS) #[] a8] (dE0 true sN.k hd)) := qZ (by
    have e : dE0 true sN.k hd = [] ++ [.app nm hd, .sync nm] := by rw [K9.out]; rfl
    rw [e];refine aJ2.pushes (vs := []) aJ2.nil rfl (fun i h1 h2 => ?_) (by simp [Value.oneCell']) (fun x hx => hx.elim) (fun x hx => by omega) (fun r hr => by cases hr) m9.out x4.out G0.out;have hi : i < 2 := h1;rcases (by omega : i = 0 ∨ i = 1) with rfl | rfl
    ·exact E7.out.keep C7.out.size (fun x hx => C7.out.block x hx.2)
    exact S2.out.keep C7.out.size (fun x hx => C7.out.block x hx.2))
   have t9 := qZ (M9.out.trans ((m3.out.trans (j6.mono (by omega))).mono (by omega)));have x6 := qZ ((x7.out.below m3.out x7.out.lt).below j6 (by have := x7.out.lt; omega));have y9 := qZ ((L0.out.below m3.out L0.out.lt).below j6 (by have := L0.out.lt; omega));clear j6 E7 S2 L1 C7 m9 x4 G0 M9 x7 L0 m3 b8 f9 m7;have q5 := qZ (C8.out _ t9.out).2;have C4 : Below m0.heap.size m0 (m0.alloc (.cells #[.pointer (some ⟨sb, 0, none⟩)] 108)) := (lS _ m0).alloc (lR _) _;have bF := C4.size;have L3 := qZ (q5.out.below C4);have X1 := qZ (D5.out.below C4);have X7 := qZ (x6.out.below C4 x6.out.lt);have Y6 := qZ (y9.out.below C4 y9.out.lt);have X3 := qZ (t9.out.trans (C4.mono (by omega)));have Y5 := qZ (aG4 m0 108 [.pointer (some ⟨sb, 0, none⟩)]);have g8 : (q6.map fun a => Value.pointer (some a)).length = nl := by rw [lU, g9.out]
   have M5 := qZ g8;have Y3 := qZ L3.out.own;clear C4 g8 q5 D5 x6 y9 t9;go_wp2_with (at_builtin; go_must (refine aB5 rfl (.tmp 143) (.tmp 145) 49 rfl w.heap.size 108 (.pointer none) 8 Tryz.underlying49 aV7 rfl _ _ rfl Y3.out (m0.heap.size + 1) (some ⟨m0.heap.size, 0, none⟩) 1 1 [.pointer (some ⟨sb, 0, none⟩)] rfl rfl Y5.out (by simp [Value.oneCell']) (by rw [M5.out]; unfold maxLen; omega) (by rw [M5.out]; omega) (by omega) ?_; intro bK bL l5 I9 I6; have G2 := qZ l5; have n6 := qZ I9; have E1 := qZ I6; clear l5 I9 I6))
   go_meet;obtain ⟨X0, G6, l6, _⟩ := G2.out.shape;have O7 : (q6.map (fun a => Value.pointer (some a)) ++ [Value.pointer (some ⟨sb, 0, none⟩)]).length = (j.segs ++ [sN]).length := by
    rw [lT, lT, M5.out, <- i3.out]
    rfl
   rw [O7] at l6;have aL := n6.out.size;have p6 := Y7.out;have L9 : sN = ⟨sN.k, ix + 1, t, [], [(hd.length : Int)]⟩ := by
    rw [E5.out, z9.out]
    rfl
   have hM : aY4 (m0.alloc (.cells #[.pointer (some ⟨sb, 0, none⟩)] 108)) (fun x => F x ∨ (sb <= x ∧ x < a9.heap.size)) ⟨sb, 0, none⟩ sN := by
    rw [L9];exact dE9 X7.out Y6.out (.inr ⟨lR _, by omega⟩) (.inr ⟨by omega, by omega⟩) (by have := K8.out; omega) (by omega) ht (by omega)
   have hP := aH7.push (F' := fun x => F x ∨ (sb <= x ∧ x < a9.heap.size)) L3.out hM (fun x hx => .inl hx) (fun x hx => by
    rcases hx with hx | hx
    ·have := E2.out x hx; omega
    ·omega) (fun r hr hx => by
    have h1 := p6 r hr;rcases hx with hx | hx
    ·exact L3.out.apart r hr hx
    omega) n6.out E1.out G2.out
   have N8 := X1.out.other n6.out (by
    cases hq : M3.ownBlock with
    | none => exact .inl rfl
    | some q =>
     refine .inr (fun e => ?_);have h1 := R3.out q hq;have h2 := p6 q e.symm;omega) (fun r hr hx => by have := p6 r hr; omega)
   rw [l6] at hP;refine ⟨X0, G6, nl, M3, j.segs ++ [sN], q6 ++ [⟨sb, 0, none⟩], [.func (.func FP) #[] a7, .func (.func FS) #[] a8], fun x => F x ∨ (sb <= x ∧ x < a9.heap.size), fun x => sb <= x ∧ x < a9.heap.size, l6, rfl, rfl, by rw [lT, <- i3.out]; simp; omega, by rw [lT, <- i3.out]; omega, by simp, qZ ⟨by simp, by simp [i3.out], fun _ => ⟨G3.out.1, G3.out.2, aH⟩⟩, qZ ((C8.out _ X3.out).1.grown n6.out (by omega) (fun k hk => (L3.out.own.lt k hk).1)), qZ hP, qZ N8, qZ ⟨fun r hr hx => ?_, fun r hr hx => ?_, fun x hx => by omega, fun x hx => hx.imp id (fun h => by omega)⟩⟩
   ·rcases E1.out with e | ⟨q, e, hq⟩
    ·rw [l6] at e
     have := p6 r (e ▸ hr);omega
    rw [l6, hr] at e;injection e with e
    omega
   have h1 := R3.out r hr;rcases hx with hx | hx
   ·have := E2.out r hx; omega
   omega
 obtain ⟨A5, c5, fr, dv, ss, d8, vs, F5, G, Z1, T4, Z2, aP, p4, W5, D9, N2, B1, Q7, M6⟩ := hcut;subst Z1 Z2;have N7 := T4.symm;clear T4;subst N7;clear z7 C5;obtain ⟨ns, J5⟩ : ∃ n, n = ss.length := ⟨_, rfl⟩
 have p9 := qZ J5;rw [<- J5] at B1 M6 aP p4 ⊢;have I7 : fr <= ss.length := by rw [<- J5]; exact p4
 obtain ⟨N, hN⟩ : ∃ N, N = aV5 ss ix ns fr := ⟨_, rfl⟩
 have T7 : N <= ns := by rw [hN, J5]; exact cJ1 ss ix _ _ I7
 have HN := qZ hN;have aV : IntKind.i64.wrap (ix + 1) = ix + 1 := mH _ (by omega);have V6 := N2.out.size;obtain ⟨aD, aE⟩ : ns <= c5 ∧ c5 <= maxLen := by
  obtain ⟨A', c', hv, k1, k2, _⟩ := Own.shape B1.out.own;injection hv with _ e1 e2
  rw [<- e1] at k1;subst e2;exact ⟨k1, k2⟩
 clear hN J5 I7;go_upto_block 2 with fail
 go_cut [15] from 147 to 166 (fun c15 wx => c15 = .int .i64 N ∧ wx = wc)
 case first =>
  go_wp2_with fail
  go_loopw [15] (fun i wr => ∃ (k g7 : Nat), k <= ns ∧ i = .int .i64 k ∧ wr = wc ∧ ns <= g7 + k ∧ Hid (N = aV5 ss ix g7 k)) (fun i _ => ns - (intOf i).toNat)
  case atStart => exact ⟨fr, ns, p4, rfl, rfl, by omega, HN⟩
  obtain ⟨k, g7, hk, rfl, rfl, bB, E9⟩ := hrel;clear HN p4;have bH : IntKind.i64.wrap ((k : Int) + 1) = (k : Int) + 1 := mH _ (by omega);by_cases C2 : k + 1 < ns
  rotate_left
  ·have I1 : N = k := by
    rw [E9.out];cases g7 with
    | zero => rfl
    | succ f =>
     show (match ss[k + 1]? with | some s => _ | none => _) = _
     rw [List.getElem?_eq_none (by rw [<- p9.out]; omega)]
   have y7 := qZ I1;have bC : ¬ (k : Int) + 1 < (ns : Int) := by omega
   clear E9 I1 C2;go_wp2_with fail
   go_meet;exact ⟨by rw [y7.out], rfl⟩
  have J1 : k + 1 < d8.length := by rw [B1.out.len, <- p9.out]; exact C2
  have t7 : k + 1 < ss.length := by rw [<- p9.out]; exact C2
  obtain ⟨ab, ao, e5, _, g8, q7⟩ := (RdF.of_own (F := fun _ => True) B1.out.own (fun _ _ _ => trivial)) (by rw [lU]; omega);subst e5;obtain ⟨b, o, Al, cl, rs, Ae, ce, I3, Z6, J2, _, d1, _⟩ := (B1.out.seg (k + 1) J1 t7).rd.cells;obtain ⟨m1, L7⟩ : ∃ m, m = k + 1 := ⟨_, rfl⟩
  have e0 : wr.cell? ⟨ab, ao + m1, none⟩ = some (.pointer (some ⟨b, o, none⟩)) := by rw [L7]; exact q7 (k + 1) _ (by rw [List.getElem?_map, lW J1, I3]; rfl)
  obtain ⟨f2, rfl⟩ : ∃ f, g7 = f + 1 := ⟨g7 - 1, by omega⟩
  have f8 : N = if ss[k + 1].first <= ix + 1 then aV5 ss ix f2 (k + 1) else k := by
   rw [E9.out];show (match ss[k + 1]? with | some s => _ | none => _) = _
   rw [lW t7]
  obtain ⟨fi, U4⟩ : ∃ x, x = ss[k + 1].first := ⟨_, rfl⟩
  rw [<- U4] at d1 f8;rw [<- L7] at f8;have aA : (k : Int) + 1 = (m1 : Int) := by omega
  have P1 : m1 < ns := by omega
  have P2 : (m1 : Int) < (ns : Int) := by omega
  have X9 := qZ L7;have i4 := qZ f8;clear q7 I3 U4 f8 L7 C2;by_cases hle : fi <= ix + 1
  ·have Y0 := qZ (show N = aV5 ss ix f2 m1 by rw [i4.out, if_pos hle])
   clear i4 E9;go_wp2_with fail
   go_roundw
   case rel => exact ⟨m1, f2, by omega, by go_num, by first | rfl | trivial, by have := X9.out; omega, Y0⟩
   case measure => simp [intOf]; omega
  have I1 : N = k := by rw [i4.out, if_neg hle]
  have y7 := qZ I1;clear i4 E9 I1;go_wp2_with fail
  go_meet;exact ⟨by rw [y7.out], rfl⟩
 obtain ⟨rfl, rfl⟩ := hcut;have aZ : N <= c5 := by omega
 have Z8 : (0 : Int) <= (N : Int) ∧ (N : Int) <= (c5 : Int) := by omega
 go_upto_block 4 with fail
 go_cut [14] from 171 to 182 (fun G6 wx => ∃ (o7 : Value) (l9 : List Value) (G1 : Nat -> Prop), G6 = o7 ∧ l9.length <= N + 2 ∧ Hid (Below w.heap.size w wx) ∧ Hid (aH7 wx F5 w.heap.size (.slice A5 ns c5) d8 ss) ∧ Hid (aJ2 wx G1 w.heap.size gj g o7 l9 (dE0 nw sN.k hd ++ (ss.take N).map fun x => aC3.rm (aA1 x.k))) ∧ Hid ((∀ r, (Value.slice A5 ns c5).ownBlock = some r -> ¬ G1 r) ∧ (∀ r, o7.ownBlock = some r -> ¬ F5 r) ∧ (∀ x, G1 x -> w.heap.size <= x) ∧ (∀ x, F5 x -> F x ∨ w.heap.size <= x)))
 case first =>
  go_wp2_with fail
  go_loopw [171, 14, 19] (fun i dvv _ wr => ∃ (k : Nat) (o7 : Value) (l9 : List Value) (G1 : Nat -> Prop), k <= N ∧ i = .int .i64 k ∧ dvv = o7 ∧ l9.length <= k + 2 ∧ Hid (Below w.heap.size w wr) ∧ Hid (aH7 wr F5 w.heap.size (.slice A5 ns c5) d8 ss) ∧ Hid (aJ2 wr G1 w.heap.size gj g o7 l9 (dE0 nw sN.k hd ++ (ss.take k).map fun x => aC3.rm (aA1 x.k))) ∧ Hid ((∀ r, (Value.slice A5 ns c5).ownBlock = some r -> ¬ G1 r) ∧ (∀ r, o7.ownBlock = some r -> ¬ F5 r) ∧ (∀ x, G1 x -> w.heap.size <= x) ∧ (∀ x, F5 x -> F x ∨ w.heap.size <= x))) (fun i _ _ _ => N - (intOf i).toNat)
  case atStart => exact ⟨0, dv, vs, G, by omega, rfl, rfl, W5, N2, B1, qZ (by rw [List.take_zero, List.map_nil, List.append_nil]; exact Q7.out), M6⟩
  obtain ⟨k, o7, l9, G1, hk, rfl, l8, K0, HB, HS, HA, HP⟩ := hrel;have B8 := l8.symm;clear l8;subst B8;have V9 := HB.out.size;by_cases O9 : k < N
  rotate_left
  ·obtain rfl : k = N := by omega
   go_wp2_with fail
   go_meet;exact ⟨_, l9, G1, rfl, K0, HB, HS, HA, HP⟩
  have J1 : k < d8.length := by rw [HS.out.len, <- p9.out]; omega
  have t7 : k < ss.length := by rw [<- p9.out]; omega
  obtain ⟨ab, ao, e5, _, g8, q7⟩ := (RdF.of_own (F := fun _ => True) HS.out.own (fun _ _ _ => trivial)) (by rw [lU]; omega);subst e5;have hM := HS.out.seg k J1 t7;have e0 : wr.cell? ⟨ab, ao + k, none⟩ = some (.pointer (some d8[k])) := q7 k _ (by rw [List.getElem?_map, lW J1]; rfl);have P4 := hM.rd.num.k;have Q5 : ss.take (k + 1) = ss.take k ++ [ss[k]] := by rw [List.take_add_one, lW t7]; rfl
  have n7 := qZ (hM.nameJ (HE.out wr (HB.out.mono D1)));obtain ⟨ad, T8⟩ : ∃ a, a = d8[k] := ⟨_, rfl⟩
  obtain ⟨s, hs⟩ : ∃ s, s = ss[k] := ⟨_, rfl⟩
  rw [<- T8] at e0 n7;rw [<- hs] at P4 Q5 n7;have P5 := aJ8 s.k P4;obtain ⟨nm, C3⟩ : ∃ n, n = aA1 s.k := ⟨_, rfl⟩
  have K9 := qZ C3;rw [<- C3] at n7 P5;have Z0 := qZ Q5;clear q7 hM T8 hs C3 Q5 P4;go_wp2_with fail
  refine n7.out.mono ?_;rintro e w5 ⟨rfl, O1⟩;have Q1 := O1.size;have C6 := qZ O1;clear O1 n7 e0;go_wp2_with fail
  refine (show Calls _ _ _ w5 _ from bQ3 (gj := gj) (g := g) nm (by omega) w5).mono ?_;rintro e w6 ⟨v6, rfl, s9, ⟨F6, e9, rfl⟩, _, I4⟩;have V7 := s9.size;have B5 := C6.out.trans (s9.mono Q1);have X2 := qZ B5;have q8 := I4 (fun x => G1 x ∨ (wr.heap.size <= x ∧ x < w6.heap.size)) (fun x h1 h2 => .inr ⟨by omega, h2⟩);have M4 := qZ q8;have V8 : w6.heap.size <= (w6.alloc (.cells #[.func (.func F6) #[] e9] 98)).heap.size := by simp
  have p0 := B5.trans (((lS w6.heap.size w6).alloc (lR _) (.cells #[.func (.func F6) #[] e9] 98)).mono (by omega));have R1 := qZ (HA.out.below p0);have z8 := qZ (HS.out.below p0);have N0 := qZ (HB.out.trans (p0.mono V9));have L1 := qZ (aG4 w6 98 [.func (.func F6) #[] e9]);obtain ⟨Ad, cd, l8, _, _, _⟩ := R1.out.own.shape;subst l8;have y8 := qZ R1.out.own;clear s9 I4 B5 q8 p0 C6;go_wp2_with (at_builtin; go_must (refine aB5 rfl (.tmp 175) (.tmp 180) 110 rfl w.heap.size 98 .nilFunc 8 Tryz.underlying110 aN2 rfl _ _ rfl y8.out (w6.heap.size + 1) (some ⟨w6.heap.size, 0, none⟩) 1 1 [.func (.func F6) #[] e9] rfl rfl L1.out (by simp [Value.oneCell']) (by unfold maxLen; omega) (by omega) (by omega) ?_; intro v8 w8 t8 U5 U3; have Y2 := qZ t8; have x5 := qZ U5; have R4 := qZ U3; clear t8 U5 U3))
  go_roundw
  case rel =>
   have aN := x5.out.size;have Z3 := HA.out.step X2.out M4.out x5.out R4.out Y2.out;have P3 := jrow_type_ne z8.out.own y8.out (by decide);refine ⟨k + 1, v8, l9 ++ [.func (.func F6) #[] e9], fun x => G1 x ∨ (wr.heap.size <= x ∧ x < w6.heap.size), by omega, by go_num, rfl, by simp; omega, qZ (N0.out.grown x5.out (by omega) (fun r hr => (y8.out.lt r hr).1)), qZ (z8.out.other x5.out P3 (fun r hr => HP.out.2.1 r hr)), qZ ?_, qZ ⟨fun r hr hx => ?_, fun r hr hx => ?_, fun x hx => ?_, HP.out.2.2.2⟩⟩
   ·rw [Z0.out, mE, <- List.append_assoc, mG, List.map_nil, <- K9.out]
    exact Z3
   ·rcases hx with hx | hx
    ·exact HP.out.1 r hr hx
    have := (HS.out.own.lt r hr).2; omega
   ·rcases R4.out with e | ⟨q, e, hq⟩
    ·exact HP.out.2.1 r (e ▸ hr) hx
    rw [hr] at e;injection e with e
    have := z8.out.lt r hx;omega
   rcases hx with hx | hx
   ·exact HP.out.2.2.1 x hx
   omega
  case measure => simp [intOf]; omega
 obtain ⟨o7, l9, G1, l8, K0, HB, HS, HA, HP⟩ := hcut;have B8 := l8.symm;clear l8;subst B8;clear N2 B1 Q7 M6 V6 W5;have V9 := HB.out.size;obtain ⟨al, g8⟩ : ∃ a, a = dE0 nw sN.k hd ++ (ss.take N).map fun x => aC3.rm (aA1 x.k) := ⟨_, rfl⟩
 have N9 : al.length <= 1000000010 := by
  rw [g8, lT, lU, lV];have : (dE0 nw sN.k hd).length <= 2 := by unfold dE0; split <;> simp
  omega
 have aF : aF4 al <= 1048601 := by
  have h1 : ∀ l : List aB1, aF4 (l.map fun x => aC3.rm (aA1 x.k)) = 0 := fun l => bC2 (fun a ha => by obtain ⟨x, _, rfl⟩ := List.mem_map.1 ha; rfl)
  have h2 : ∀ a b : List aC3, aF4 (a ++ b) = aF4 a + aF4 b := fun a b => by unfold aF4; rw [mE, List.sum_append]
  rw [g8, h2, h1];unfold dE0;cases J7 : nw with
  | false => simp [aF4]
  | true =>
   have := (D9.out.2.2 J7).2.2;simp [aF4, aC3.cost]
   omega
 rw [<- g8] at HA;obtain ⟨Ad, cd, l8, _, _, _⟩ := HA.out.own.shape;rw [HA.out.len] at l8;subst l8;have X5 := qZ (HH.out.below HB.out);have D6 := qZ (aR7 (E := fun k => w.heap.size <= k ∧ k < wc.heap.size) X5.out.disk (HJ.out.below HB.out O4) HH.out.lo Ad l9 al cd (RdF.of_own HA.out.own (fun k h1 h2 => ⟨h1, h2⟩)) HA.out.len (fun k h h' => (HA.out.acts k h h').mono (fun x hx => ⟨HP.out.2.2.1 x hx, HA.out.lt x hx⟩)) (fun k hk => ⟨hk.2, fun hf => by have := (HH.out.disk.lt k hf).2; omega, by omega⟩) (fun w' hb' => HE.out w' ((HB.out.mono D1).trans hb')) (L := L) (by rw [DkD.eta' d HH.out.fs]; exact S5.out) (by omega) (by omega));rw [DkD.eta' d HH.out.fs] at D6;obtain ⟨rc, d3, hR⟩ : ∃ rc d3, aG1 al d = (rc, d3) := ⟨_, _, rfl⟩
 rw [hR] at D6;have V4 : aF8 j d ix t = (rc, if rc = 0 then ⟨j.term, j.vote, ss.drop N, j.bad⟩ else ⟨j.term, j.vote, j.segs, rc⟩, d3) := by
  rw [HR.out];unfold aQ3;rw [<- z9.out, <- E5.out, if_neg (fun h => (D9.out.2.2 h.1).1 h.2), if_neg (fun h => (D9.out.2.2 h.1).2.1 h.2)];dsimp only
  rw [<- D9.out.1, <- D9.out.2.1, <- p9.out, <- HN.out];have e : (if nw = true then [aC3.app (aA1 sN.k) hd, .sync (aA1 sN.k)] else []) ++ (ss.take N).map (fun x => aC3.rm (aA1 x.k)) = al := g8.symm;rw [e, hR]
 have L2 := qZ V4;dsimp only at D6
 clear hR g8 aF N9 V4 HR;have hcut := fun W : World => aO1 (P := Tryz.prog) Tryz.underlying49 aV7 A5 ns c5 N T7 (N : Int) rfl W
 go_wp2_with fail
 refine D6.out.mono ?_;rintro e w9 ⟨rfl, G7, G8, I2, I0, o8, C0⟩;have J8 := o8.size;have T5 : Fr (fun k => aA8 g m es k ∨ k = gj) w w9 := (Fr.of_below _ HB.out).trans o8 (fun j hj => .inl hj);have p7 := qZ T5;have m8 := qZ G8;have G5 := qZ I2;have g6 := qZ I0;have f9 := qZ (show ∀ k, aA8 g m G7 k -> aA8 g m es k ∨ wc.heap.size <= k from C0);have i4 : Hid (∀ x, F5 x ∨ (Value.slice A5 ns c5).ownBlock = some x -> w9.heap[x]? = wc.heap[x]? ∧ (F x ∨ w.heap.size <= x) ∧ x < wc.heap.size ∧ x ≠ gj ∧ ¬ aA8 g m G7 x) := qZ (fun x hx => by
  have h1 : (F x ∨ w.heap.size <= x) ∧ x < wc.heap.size := by
   rcases hx with hx | hx
   ·exact ⟨HP.out.2.2.2 x hx, HS.out.lt x hx⟩
   have := HS.out.own.lt x hx;exact ⟨.inr this.1, this.2⟩
  have h2 : x ≠ gj ∧ ¬ aA8 g m es x := by
   rcases h1.1 with h3 | h3
   ·exact (HH.out.apart x h3).2.2
   exact ⟨by omega, fun hf => by have := (HH.out.disk.lt x hf).2; omega⟩
  refine ⟨o8.block x h1.2 (by rintro (h3 | h3); exact h2.2 h3; exact h2.1 h3), h1.1, h1.2, h2.1, fun hf => ?_⟩;rcases C0 x hf with h3 | h3
  ·exact h2.2 h3
  omega)
 have Y8 := qZ (HS.out.keep J8 (fun x hx => (i4.out x hx).1));have j2 : w9.cell? ⟨gj, 2, none⟩ = some (.slice A nl c) := g6.out.cell 2;have j4 : w9.cell? ⟨gj, 4, none⟩ = some (.int .i64 rc) := g6.out.cell 4;have z2 : w9.frozen? ⟨gj, 2, none⟩ = false := g6.out.frozen _;clear G8 I2 I0 o8 C0 T5 D6;by_cases hz : rc = 0
 ·subst hz
  have G4 := qZ (L2.out.trans (by rw [if_pos rfl, <- E6.out] : _ = ((0 : Int), (⟨j.term, j.vote, ss.drop N, 0⟩ : JnP), d3)));clear L2;have U6 := aA0 w9 gj 2 (.slice (cutA A5 N c5) (ns - N) (c5 - N));have X4 := qZ (g6.out.set_ 2 (.slice (cutA A5 N c5) (ns - N) (c5 - N)));have E3 := qZ U6;clear U6;go_wp2_with fail
  go_ret
  have P3 : ∀ k, (Value.slice A5 ns c5).ownBlock = some k -> k ≠ gj := fun k hk => (i4.out k (.inr hk)).2.2.2.1
  have Z9 := Y8.out.other E3.out (by
   cases hq : (Value.slice A5 ns c5).ownBlock with
   | none => exact .inl rfl
   | some q => exact .inr (fun e => by injection e with e; exact P3 q hq e)) (fun r hr hx => by injection hr with hr; exact (i4.out r (.inl hx)).2.2.2.1 hr.symm)
  have Z7 := Z9.jat (k := N) (by rw [<- p9.out]; exact T7) X4.out (by rw [<- p9.out]; omega) n9.out.1 n9.out.2;exact HH.out.acted (es2 := G7) (F' := fun x => F5 x ∨ (Value.slice A5 ns c5).ownBlock = some x) (p7.out.trans (Fr.of_grown (mine := fun k => k = gj) E3.out (fun k e => by injection e with e; exact e.symm)) (fun k hk => .inl (.inr hk))) (m8.out.keep E3.out.size (fun k hk => E3.out.block k (m8.out.lt k hk).2 (fun e => by injection e with e; subst e; exact m8.out.not_foot g6.out (by decide) (by decide) (by decide) hk))) G5.out (fun k hk => (f9.out k hk).imp id (fun h => by omega)) Z7 (fun x hx => ⟨(i4.out x hx).2.1, by have := (i4.out x hx).2.2.1; have := E3.out.size; omega, (i4.out x hx).2.2.2⟩) D1 G4.out
 have aC : (rc == 0) = false := by simpa using hz
 have G4 := qZ (L2.out.trans (by rw [if_neg hz] : _ = (rc, (⟨j.term, j.vote, j.segs, rc⟩ : JnP), d3)));clear L2 hz;go_wp2_with fail
 go_ret
 obtain ⟨sv, Z4, aS⟩ := HH.out.jn.turn;have aR : sv = .slice A nl c := by
  have e := Z4.symm.trans HJ.out;injection e with e
  injection e with e _ _
  have e2 := congrArg (fun a : Array Value => a[2]?) e
  simpa using e2
 subst aR;have T6 : ∀ k, F k -> w9.heap[k]? = w.heap[k]? ∧ k < w9.heap.size ∧ k ≠ gj ∧ ¬ aA8 g m G7 k := fun k hk => by
  have h1 := HH.out.apart k hk;have := p7.out.size;refine ⟨p7.out.block k h1.2.1 (by rintro (h3 | h3); exact h1.2.2.2 h3; exact h1.2.2.1 h3), by omega, h1.2.2.1, fun hf => ?_⟩;rcases f9.out k hf with h3 | h3
  ·exact h1.2.2.2 h3
  omega
 exact HH.out.acted (es2 := G7) (F' := F) p7.out m8.out G5.out (fun k hk => (f9.out k hk).imp id (fun h => by omega)) (aS w9 j.term j.vote rc p7.out.size (fun k hk => (T6 k hk).1) g6.out n9.out.1 n9.out.2) (fun k hk => ⟨.inl hk, (T6 k hk).2⟩) D1 G4.out
end
end Go.Proofs.YtgeofijddhflaaaGreatDoor
