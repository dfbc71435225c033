/- pavanelaw22.JournalLasts answers true. Condition: what it reads is of bulk at most 1048576; the library's variables stand as laid. -/
import Derived.Test.YtgeofijddhflaaaGreatDoorLJnSave
set_option linter.unusedVariables false
set_option linter.unusedSimpArgs false
set_option maxHeartbeats 8000000
set_option maxRecDepth 100000
namespace Go.Proofs.YtgeofijddhflaaaGreatDoor
section
open Go.RowKit Go.Maps Oct
theorem bA4 {w : World} {base g m : Nat} {p : PWD} {room : Int} {es : List (Nm × FE)} (h : aB0 w base g m p room es) {L : Nat} (X1 : JDk L (aD2 p room es)) (hL : L <= 1000000000) (C5 : base <= w.heap.size) (hE : ∀ w', Below base w w' -> Tab w' ∧ dA1 w') :
  Calls Tryz.prog 14 #[.pointer (some ⟨g, 0, none⟩)] w fun e w' => cQ6 w base g m es (aL5 (aD2 p room es)) e w' := by
 have HH := qZ h;have E2 := qZ X1;have HE := qZ hE;have j9 := qZ (fun k hk => (h.lt k hk).1);obtain ⟨w0, L2⟩ : ∃ W, W = w.alloc (.cells #[.pointer (some ⟨g, 0, none⟩)] 26) := ⟨_, rfl⟩
 have P0 : Below w.heap.size w w0 := by rw [L2]; exact (lS _ w).alloc (lR _) _
 have P4 : Blk w0 w.heap.size 26 #[.pointer (some ⟨g, 0, none⟩)] := by rw [L2]; exact Blk.new w _ _
 have Q9 : w0.heap.size = w.heap.size + 1 := by rw [L2] <;> simp
 have c0 : w0.cell? ⟨w.heap.size, 0, none⟩ = some (.pointer (some ⟨g, 0, none⟩)) := P4.cell 0;have E3 := qZ (dI8 (h.below P0));obtain ⟨d0, J7⟩ : ∃ d, d = aD2 p room es := ⟨_, rfl⟩
 have X3 : p.off = d0.pw.off := by rw [J7] <;> rfl
 rw [X3] at E3;rw [<- J7];rw [<- J7] at E2;have U1 := qZ L2;have N9 := qZ P4;have L6 := qZ P0;have B6 := qZ J7;clear h X1 hE P4 P0 L2 J7 X3;go_enter Tryz.func14, Tryz.ntmps14
 go_upto_region 1 with fail
 rw [<- U1.out];by_cases ho : d0.pw.off = true
 ·have HO := qZ (cX2 ho)
  rw [ho] at E3;clear ho;go_wp2_with fail
  refine E3.out.mono ?_;rintro e w1 ⟨rfl, rfl⟩;go_wp2_with fail
  go_ret2
  rw [HO.out];exact ⟨es, by rw [B6.out]; exact HH.out.below L6.out, by rw [B6.out] <;> rfl, Fr.of_below _ L6.out, fun k hk => .inl hk, rfl⟩
 have M9 : d0.pw.off = false := by simpa using ho
 have HO := qZ (cK0 M9);have I3 := qZ M9;rw [M9] at E3;obtain ⟨w1, L3⟩ : ∃ W, W = w0.alloc (.cells #[.int .i64 0, .int .i64 0, .slice none 0 0, .pointer (some ⟨g, 0, none⟩), .int .i64 0] 53) := ⟨_, rfl⟩
 have P1 : Below w0.heap.size w0 w1 := by rw [L3]; exact (lS _ w0).alloc (lR _) _
 have P3 : Blk w1 w0.heap.size 53 #[.int .i64 0, .int .i64 0, .slice none 0 0, .pointer (some ⟨g, 0, none⟩), .int .i64 0] := by rw [L3]; exact Blk.new w0 _ _
 have aO : w1.heap.size = w.heap.size + 1 + 1 := by rw [L3, <- Q9] <;> simp
 rw [Q9] at P3;have P5 : OpS w base g m es w.heap.size (w.heap.size + 1) d0 0 0 (.slice none 0 0) 0 w1 es := by
  have J3 := L6.out.trans (P1.mono (by omega));refine ⟨by rw [B6.out]; exact HH.out.below J3, by rw [B6.out] <;> rfl, P3, N9.out.below P1 N9.out.lt, Fr.of_below _ J3, fun k hk => .inl hk, lR _, by omega⟩
 have O4 := qZ P5;have U2 := qZ L3;have x5 := qZ (bL5 P5.disk (by have := bK9 (pw := p) (room := room) (es := es) (L := L) (by rw [<- B6.out]; exact E2.out); omega));clear ho M9 L3 P1 P3 P5;go_upto_region 3 with (refine E3.out.mono ?_; rintro e w1 ⟨rfl, rfl⟩)
 go_upto_region 4 with fail
 rw [<- U2.out];obtain ⟨B, hB⟩ : ∃ B : Bool, B = true ↔ (bC9 d0).1 ≠ 0 := by
  by_cases hh : (bC9 d0).1 ≠ 0
  ·exact ⟨true, by simp [hh]⟩
  exact ⟨false, by simpa using hh⟩
 have p8 := qZ hB;clear hB;go_cut [32] from 22 to 32 (fun c wx => ∃ x7, c = .bool B ∧ Hid (OpS w base g m es w.heap.size (w.heap.size + 1) (bC9 d0).2 0 0 (.slice none 0 0) (bC9 d0).1 wx x7))
 case first =>
  have k0 : w1.cell? ⟨w.heap.size, 0, none⟩ = some (.pointer (some ⟨g, 0, none⟩)) := O4.out.bx.cell 0;go_wp2_with fail
  refine x5.out.mono ?_;rintro e w2 ⟨v2, rfl, Y4, q9⟩;obtain ⟨A2, c2, rfl, q1, q2, q3⟩ := Y4.shape;rw [lU] at q1 ⊢;have D8 := qZ (O4.out.below q9);have bG : es.length <= 1000000000 := by have := (bK9 (pw := p) (room := room) (es := es) (L := L) (by rw [<- B6.out]; exact E2.out)).2; omega
  have x4 := qZ (bT0 A2 (es.map (·.1)) c2 aA3 w2 (by rw [List.map_map]; exact q3) (by rw [lU]; omega));rw [lU] at x4;have J2 : (es.map (·.1)).any (fun n => n == aA3) = d0.fs.any fun q => q.1 == aA3 := by
   rw [B6.out];show _ = (sec FE.f es).any _
   unfold sec;rw [List.any_map, List.any_map]
   rfl
  rw [J2] at x4;have bK := q9.size;clear Y4 q9 q3 x5 J2 k0;change Hid (Calls Tryz.prog _ #[.slice A2 es.length c2, .string ⟨#[109, 101, 116, 97, 46, 110, 101, 119]⟩] w2 _) at x4;by_cases hA : (d0.fs.any fun q => q.1 == aA3) = true
  rotate_left
  ·have m9 : bC9 d0 = (0, d0) := by unfold bC9; rw [if_neg hA]
   have E5 : (d0.fs.any fun q => q.1 == aA3) = false := eq_false_of_ne_true hA;rw [E5] at x4;have T5 := qZ m9;clear hA E5 m9;go_wp2_with fail
   refine x4.out.mono ?_;rintro e w3 ⟨rfl, rfl⟩;go_wp2_with fail
   go_meet;refine ⟨es, congrArg Value.bool ?_, qZ (by rw [T5.out]; exact D8.out)⟩;cases B with
   | true => exact absurd (by rw [T5.out]) (p8.out.1 rfl)
   | false => rfl
  have m9 : bC9 d0 = d0.remove aA3 := by unfold bC9; rw [if_pos hA]
  rw [hA] at x4;have T4 := qZ m9;clear hA m9;go_wp2_with fail
  refine x4.out.mono ?_;rintro e w3 ⟨rfl, rfl⟩;go_wp2_with fail
  refine (show Calls _ _ _ w2 _ from bQ3 (gj := w.heap.size + 1) (g := g) aA3 (by decide) w2).mono ?_;rintro e w3 ⟨v3, rfl, y8, ⟨F3, f7, rfl⟩, _, g7⟩;have R1 := y8.size;have r9 : Below w2.heap.size w2 (w3.alloc (.cells #[.func (.func F3) #[] f7] 98)) := y8.alloc y8.size _;have J0 := D8.out.below r9;have d8 : RdF (w3.alloc (.cells #[.func (.func F3) #[] f7] 98)) (fun k => w2.heap.size <= k ∧ k < w3.heap.size + 1) (some ⟨w3.heap.size, 0, none⟩) [.func (.func F3) #[] f7] := fun _ => ⟨w3.heap.size, 0, rfl, ⟨R1, by omega⟩, by simp, fun j u hu => by
   rw [Nat.zero_add];exact aI1 (Blk.new w3 98 #[.func (.func F3) #[] f7]) j u hu⟩
  have V2 : ∀ k (h : k < [Value.func (.func F3) #[] f7].length) (h' : k < [aC3.rm aA3].length), aK3 (w3.alloc (.cells #[.func (.func F3) #[] f7] 98)) (fun k => w2.heap.size <= k ∧ k < w3.heap.size + 1) (w.heap.size + 1) g [Value.func (.func F3) #[] f7][k] [aC3.rm aA3][k] := fun k h h' => by
   obtain rfl : k = 0 := by simp at h; exact h
   have J5 := (lS w3.heap.size w3).alloc (lR _) (.cells #[.func (.func F3) #[] f7] 98);exact ((g7 (fun k => w2.heap.size <= k ∧ k < w3.heap.size) (fun k h1 h2 => ⟨h1, h2⟩)).keep J5.size (fun k hk => J5.block k hk.2)).mono (fun k hk => ⟨hk.1, by omega⟩)
  have l7 := qZ (aR7 J0.disk J0.jb (by omega) (some ⟨w3.heap.size, 0, none⟩) [.func (.func F3) #[] f7] [.rm aA3] 1 d8 rfl V2 (fun k hk => ⟨by simp; omega, fun hf => by have := (D8.out.disk.lt k hf).2; omega, by have := D8.out.jb.lt; omega⟩) (fun w' hb' => (HE.out w' ((J0.baseB j9.out C5).trans hb')).1) (L := L) (by rw [DkD.eta' d0 D8.out.fs]; exact E2.out) (by show L + (0 + 0) <= _; omega) (by simp));rw [DkD.eta' d0 D8.out.fs] at l7;have L0 : aG1 [.rm aA3] d0 = bC9 d0 := by
   rw [T4.out];exact cK7 (.rm aA3) d0
  rw [L0] at l7;have T6 := qZ J0;clear g7 y8 r9 J0 d8 V2 L0 T4 x4;go_wp2_with fail
  refine l7.out.mono ?_;rintro e w4 ⟨rfl, I9⟩;obtain ⟨es2, U9, _, _⟩ := T6.out.acts I9;have Z4 := qZ U9;clear U9 I9 l7 T6;go_wp2_with fail
  go_meet;refine ⟨es2, congrArg Value.bool ?_, Z4⟩;cases B with
  | true => exact bne_iff_ne.2 (p8.out.1 rfl)
  | false =>
   rw [bne_eq_false_iff_eq];exact Classical.byContradiction fun hh => by have := p8.out.2 hh; cases this
 obtain ⟨x7, rfl, L4⟩ := hcut;clear O4 U2 E3 x5 c0 N9 L6 U1 Q9 aO;cases B with
 | true =>
  have W7 := p8.out.1 rfl;have hr : aL5 d0 = ((bC9 d0).1, none, (bC9 d0).2) := by rw [HO.out, if_neg W7]
  have HR := qZ hr;obtain ⟨rc, G0⟩ : ∃ x, x = (bC9 d0).1 := ⟨_, rfl⟩
  have j4 : wc.cell? ⟨w.heap.size + 1, 4, none⟩ = some (.int .i64 rc) := by rw [G0]; exact L4.out.jb.cell 4
  have Z7 := qZ G0;clear W7 hr G0;go_wp2_with fail
  go_quiet (fail);go_wp2_with fail
  go_ret2
  exact (L4.out.below (aA4 (lS _ wc) _)).endNone rc (by rw [Z7.out]; exact HR.out)
 | false =>
  have h0 : (bC9 d0).1 = 0 := Classical.byContradiction fun hh => by have := p8.out.2 hh; cases this
  have hr : aL5 d0 = aS9 (bC9 d0).2 := by rw [HO.out, if_pos h0]
  have HR := qZ hr;have C2 := qZ (dD5 I3.out h0);have i6 := qZ (dK0 E2.out);have E5 := L4.out;rw [h0] at E5;have n9 := qZ E5;obtain ⟨d1, V4⟩ : ∃ x, x = (bC9 d0).2 := ⟨_, rfl⟩
  rw [<- V4] at HR C2 i6 n9;clear h0 hr E5 V4 L4 p8 HO E2 I3;have k0 : wc.cell? ⟨w.heap.size, 0, none⟩ = some (.pointer (some ⟨g, 0, none⟩)) := n9.out.bx.cell 0;have C6 := DkD.eta' d1 n9.out.fs;have Q3 := bK9 (pw := d1.pw) (room := d1.room) (es := x7) (L := L) (by rw [C6]; exact i6.out);have O0 := qZ (cU8 n9.out.disk (by omega) (fun q hq => by
   have := i6.out.nm (q.1, q.2.f) (by rw [<- n9.out.fs]; exact List.mem_map.2 ⟨q, hq, rfl⟩);exact this) (fun q hq => by have := Q3.1 q hq; omega) C2.out (HE.out wc (n9.out.baseB j9.out C5)).2)
  rw [C6] at O0;have M0 := qZ Q3;clear C6 Q3;go_wp2_with fail
  refine O0.out.mono ?_;rintro e w3 ⟨y8, v3, rfl, U8⟩;have l9 := qZ (n9.out.below y8);have R1 := y8.size;obtain ⟨lo, K3⟩ : ∃ n, n = wc.heap.size := ⟨_, rfl⟩
  have aG : w.heap.size + 1 < lo := by rw [K3]; exact n9.out.jb.lt
  have L8 := qZ (show ∀ k, aA8 g m x7 k -> k < lo from fun k hk => by rw [K3]; exact (n9.out.disk.lt k hk).2);have aI : lo <= w3.heap.size := by rw [K3]; exact R1
  have I1 := qZ K3;clear K3;have G9 := qZ U8;have q6 := qZ (cU9 l9.out.disk (fun q hq => by have := M0.out.1 q hq; omega) l9.out.jb ⟨rfl, rfl⟩);rw [DkD.eta' d1 l9.out.fs] at q6;clear y8 U8 O0 n9 k0;obtain ⟨M, hM⟩ : ∃ M, M = aH2 d1 := ⟨_, rfl⟩
  obtain ⟨LJ, M3⟩ : ∃ x, x = aX5 d1 := ⟨_, rfl⟩
  have z9 : aS9 d1 = cX9 M LJ d1 := by rw [hM, M3]; exact bL8 d1
  have g9 := qZ z9;have K4 : ∀ l, LJ = some l -> l.length <= d1.fs.length ∧ (∀ y ∈ l, bG2 y.1 ∧ (1 <= y.1.k ∧ y.1.k <= 999999999) ∧ (y.1.ends = [] ∧ y.1.l = [] ∨ bN9 y.1 ∧ 1 <= y.1.first) ∧ (∀ e ∈ y.1.l, e.b.length <= 65535) ∧ y.1.l.length <= 1000000000) ∧ aK0 l = true := fun l hl => dD4 (d := d1) (by rw [<- M3]; exact hl) (fun q hq => by
   rw [<- l9.out.fs] at hq;obtain ⟨x, hx, rfl⟩ := List.mem_map.1 hq;have := M0.out.1 x hx;show x.2.f.b.length <= _
   omega)
  have q5 := qZ K4;have Z2 := qZ (show ∀ t v, M = some (t, v) -> (-9223372036854775808 <= t ∧ t <= 9223372036854775807) ∧ (-9223372036854775808 <= v ∧ v <= 9223372036854775807) from fun t v e => bU9 (d := d1) (by rw [<- hM]; exact e));rw [<- hM] at q6;rw [<- M3] at G9 ⊢;clear hM M3 z9 K4;rcases M with _ | ⟨mt, mv⟩
  ·clear G9 q5
   go_wp2_with fail
   refine q6.out.mono ?_;rintro e w4 ⟨rfl, m8, t, v, x8, E9⟩;have o7 := qZ (l9.out.put m8 x8);clear m8 x8 E9 q6 l9;go_wp2_with fail
   go_ret2
   exact o7.out.endNone 53 (by rw [HR.out, g9.out]; rfl)
  rcases LJ with _ | l
  ·clear G9 q5
   go_wp2_with fail
   refine q6.out.mono ?_;rintro e w4 ⟨rfl, m8, t, v, x8, E9⟩;have o7 := qZ (l9.out.put m8 x8);clear m8 x8 E9 q6 l9;go_wp2_with fail
   go_ret2
   exact o7.out.endNone 53 (by rw [HR.out, g9.out]; rfl)
  obtain ⟨b8, d8, s9, J9⟩ := G9.out l rfl;obtain ⟨Al, cl, rfl, P8, aC, _⟩ := aC2 d8;have M6 := q5.out l rfl;have K6 : aN4 w3 (fun k => lo <= k ∧ k < w3.heap.size) Al b8 := aN4.of_row d8 J9 (fun q hq => (M6.2.1 q.o (by rw [<- s9]; exact List.mem_map.2 ⟨q, hq, rfl⟩)).1) (fun k h1 h2 => ⟨by rw [I1.out]; exact h1, h2⟩);have D0 : b8.length = l.length := by rw [<- s9, lU]
  have aN : b8.length <= 1000000000 := by
   have h1 := M6.1;have h2 := M0.out.2;have h3 : d1.fs.length = x7.length := by rw [<- l9.out.fs]; simp
   omega
  have B9 := qZ K6;have i4 := qZ s9;have D7 := qZ M6;clear d8 s9 J9 M6 K6 G9 q5 D0;go_upto_region 7 with fail
  go_cut [48] from 42 to 48 (fun c wx => c = .bool false ∧ Hid (OpS w base g m es w.heap.size (w.heap.size + 1) d1 mt mv (.slice none 0 0) 0 wx x7) ∧ Hid (aN4 wx (fun k => lo <= k ∧ k < w3.heap.size) Al b8) ∧ w3.heap.size <= wx.heap.size)
  case first =>
   go_wp2_with fail
   refine q6.out.mono ?_;rintro e w4 ⟨rfl, m8, t, v, x8, E9⟩;have e1 := E9 _ rfl;injection e1 with e1 e2
   subst e1 e2;have o7 := qZ (l9.out.put m8 x8);have o9 := qZ (B9.out.keep m8.size (fun k hk => m8.block k hk.2 (fun e => by injection e with e; have := hk.1; omega)));have aP := m8.size;clear m8 x8 E9 q6 l9 B9;go_wp2_with fail
   go_meet;exact ⟨rfl, o7, o9, aP⟩
  obtain ⟨rfl, o7, o9, R9⟩ := hcut;clear q6 l9 B9;obtain ⟨B3, U3⟩ : ∃ B : Bool, B = true ↔ ∃ r q, b8 = r ++ [q] ∧ q.s.ends = [] := by
   by_cases hh : ∃ r q, b8 = r ++ [q] ∧ q.s.ends = []
   ·exact ⟨true, by simp [hh]⟩
   exact ⟨false, Iff.intro (fun h => by cases h) (fun h => absurd h hh)⟩
  have t9 := qZ U3;clear U3;go_upto_region 10 with fail
  go_cut [63] from 51 to 63 (fun c wx => c = .bool B3 ∧ wx = wc)
  case first =>
   rcases mJ b8 with h0 | ⟨r, q, h0⟩
   ·have hB : B3 = false := by
     cases B3 with
     | false => rfl
     | true =>
      obtain ⟨r, q, h1, _⟩ := t9.out.1 rfl;rw [h0] at h1;simp at h1
    subst h0;subst hB;clear t9 D7 o9 i4;go_wp2_with fail
    go_meet;exact ⟨rfl, rfl⟩
   rw [mA] at h0;have D0 : b8.length = r.length + 1 := by rw [h0]; simp
   obtain ⟨gr, rfl, M2, M4, a9⟩ := o9.out.addr (by omega);have z7 : b8[r.length]'(by omega) = q := by simp [h0]
   have c4 : wc.cell? ⟨gr, r.length * 6 + 4, none⟩ = some (.slice q.ae q.s.ends.length q.ce) := (a9 r.length (by omega)).2 4 _ (by rw [z7]; rfl);have U5 : B3 = true ↔ q.s.ends.length = 0 := by
    rw [t9.out];constructor
    ·rintro ⟨r', q', h1, h2⟩
     rw [h0] at h1;have := List.append_inj_right' h1 rfl;injection this with this _
     subst this;rw [h2]
     rfl
    intro h1;exact ⟨r, q, h0, mD h1⟩
   have G6 := qZ U5;obtain ⟨nk, X0⟩ : ∃ n, n = q.s.ends.length := ⟨_, rfl⟩
   rw [<- X0] at c4 G6;obtain ⟨n1, p4⟩ : ∃ n, n = r.length := ⟨_, rfl⟩
   rw [<- p4] at c4;have Q8 : b8.length = n1 + 1 := by omega
   have N3 : (b8.length : Int) - 1 = (n1 : Int) := by omega
   have N4 : IntKind.i64.wrap (n1 : Int) = (n1 : Int) := mH _ (by omega);have K8 : (0 : Int) < (b8.length : Int) := by omega
   have Q6 : n1 < b8.length := by omega
   have C8 : (n1 : Int) < (b8.length : Int) := by omega
   clear h0 z7 U5 a9 X0 p4 o9 i4 D7 t9 D0 Q8;by_cases hz : nk = 0
   ·have hB : B3 = true := G6.out.2 hz
    subst hz;subst hB;clear G6;go_wp2_with fail
    go_meet;exact ⟨rfl, rfl⟩
   have hB : B3 = false := by
    cases B3 with
    | false => rfl
    | true => exact absurd (G6.out.1 rfl) hz
   subst hB;have bQ : ((nk : Int) == 0) = false := by simpa using hz
   clear G6;go_wp2_with fail
   go_meet;exact ⟨rfl, rfl⟩
  obtain ⟨rfl, rfl⟩ := hcut;have I6 := qZ (dK6 i4.out D7.out.2);go_upto_if 63 with fail
  go_cut [5] from 64 to 83 (fun v wx => ∃ (a7 : List aF7) (d2 : DkD) (es2 : List (Nm × FE)), v = .slice Al a7.length cl ∧ a7.length <= b8.length ∧ w3.heap.size <= wx.heap.size ∧ Hid (OpS w base g m es w.heap.size (w.heap.size + 1) d2 mt mv (.slice none 0 0) 0 wx es2) ∧ Hid (aN4 wx (fun k => lo <= k ∧ k < w3.heap.size) Al a7) ∧ Hid (aL5 d0 = aG3 (a7.map aF7.o) (mt, mv) d2) ∧ Hid (JDk L d2) ∧ Hid (∀ q ∈ a7, bS0 q) ∧ Hid (∀ k, lo <= k ∧ k < w3.heap.size -> ¬ aA8 g m es2 k))
  case first =>
   cases B3 with
   | false =>
    have Q7 : ¬ ∃ r q, b8 = r ++ [q] ∧ q.s.ends = [] := fun hh => by have := t9.out.2 hh; cases this
    have q8 : ∀ q ∈ b8, bS0 q := fun q hq => by
     rcases mJ b8 with h0 | ⟨r, q2, h0⟩
     ·rw [h0] at hq; cases hq
     rw [mA] at h0;rw [h0] at hq;rcases List.mem_append.1 hq with h1 | h1
     ·obtain ⟨i, hi, rfl⟩ := List.getElem_of_mem h1
      have := I6.out.1 i (by rw [h0]; simp; omega);simp only [h0, List.getElem_append_left hi] at this;exact this
     obtain rfl := List.mem_singleton.1 h1;exact I6.out.2 q (by rw [h0]; simp) (fun h2 => Q7 ⟨r, q, h0, h2⟩)
    have n7 : aL5 d0 = aG3 (b8.map aF7.o) (mt, mv) d1 := by
     rw [HR.out, g9.out, <- i4.out];rcases mJ b8 with h0 | ⟨r, q2, h0⟩
     ·rw [h0]; rfl
     rw [mA] at h0;rw [h0];show aQ7 _ _ _ = _
     rw [bB1, if_neg];intro h1;exact Q7 ⟨r, q2, h0, by simpa using h1⟩
    have i1 := qZ q8;have g6 := qZ n7;have C0 := qZ (show ∀ k, lo <= k ∧ k < w3.heap.size -> ¬ aA8 g m x7 k from fun k hk hf => by have := L8.out k hf; omega);clear Q7 q8 n7;go_wp2_with fail
    go_meet;exact ⟨b8, d1, x7, rfl, lR _, R9, o7, o9, g6, i6, i1, C0⟩
   | true =>
    obtain ⟨r, q, h0, X5⟩ := t9.out.1 rfl;have D0 : b8.length = r.length + 1 := by rw [h0]; simp
    obtain ⟨gr, rfl, M2, M4, a9⟩ := o9.out.addr (by omega);have z7 : b8[r.length]'(by omega) = q := by simp [h0]
    have c0 : wc.cell? ⟨gr, r.length * 6, none⟩ = some (.int .i64 q.s.k) := (a9 r.length (by omega)).2 0 _ (by rw [z7]; rfl);have C9 : 1 <= q.s.k ∧ q.s.k <= 999999999 := (D7.out.2.1 q.o (by rw [<- i4.out, h0]; simp)).2.1;have K9 := aJ8 q.s.k (by omega);have m0 := qZ (aN8 gr (r.length * 6) q.s.k (by omega) wc c0 (HE.out wc (o7.out.baseB j9.out C5)).1);have U7 : aN4 wc (fun k => lo <= k ∧ k < w3.heap.size) (some ⟨gr, 0, none⟩) r := by
     have h1 := o9.out.take r.length;rw [h0] at h1
     simpa using h1
    have S7 := qZ U7;have y7 : ∀ x ∈ r, bS0 x := fun x hx => by
     obtain ⟨i, hi, rfl⟩ := List.getElem_of_mem hx;have := I6.out.1 i (by omega);simp only [h0, List.getElem_append_left hi] at this;exact this
    have i1 := qZ y7;have n7 : aL5 d0 = if (d1.remove (aA1 q.s.k)).1 = 0 then aG3 (r.map aF7.o) (mt, mv) (d1.remove (aA1 q.s.k)).2 else ((d1.remove (aA1 q.s.k)).1, none, (d1.remove (aA1 q.s.k)).2) := by
     rw [HR.out, g9.out, <- i4.out, h0];show aQ7 _ _ _ = _
     rw [bB1, if_pos (by simp [X5])]
    have g6 := qZ n7;obtain ⟨nm, p5⟩ : ∃ n, n = aA1 q.s.k := ⟨_, rfl⟩
    rw [<- p5] at m0 g6 K9;have O6 := qZ (show JDk L (d1.remove nm).2 from i6.out.run (.rm nm));obtain ⟨n1, p4⟩ : ∃ n, n = r.length := ⟨_, rfl⟩
    have O3 := qZ p4;rw [<- p4] at m0;have N3 : (b8.length : Int) - 1 = (n1 : Int) := by omega
    have N4 : IntKind.i64.wrap (n1 : Int) = (n1 : Int) := mH _ (by omega);have Q6 : n1 < b8.length := by omega
    have C8 : (n1 : Int) < (b8.length : Int) := by omega
    have aJ : n1 <= cl := by omega
    clear h0 z7 a9 p5 p4 o9 i4 D7 t9 D0 U7 y7 n7 X5 C9 c0 I6 g9;go_wp2_with fail
    refine m0.out.mono ?_;rintro e w5 ⟨rfl, m3⟩;have D1 := qZ (o7.out.below m3);have p7 := qZ m3;have N0 := m3.size;clear m3 m0;go_wp2_with fail
    refine (show Calls _ _ _ w5 _ from bQ3 (gj := w.heap.size + 1) (g := g) nm (by omega) w5).mono ?_;rintro e w6 ⟨v6, rfl, m5, ⟨F6, a8, rfl⟩, _, g7⟩;have l7 := qZ (cU0 D1.out m5 (.rm nm) F6 a8 g7 j9.out C5 HE.out i6.out (by show L + 0 <= _; omega));have G2 := m5.size;clear m5 g7 i6;go_wp2_with fail
    refine l7.out.mono ?_;rintro e w7 ⟨rfl, es2, V0, K0, C7⟩;have bL := C7.size;have U6 : ∀ k, lo <= k ∧ k < w3.heap.size -> w7.heap[k]? = wc.heap[k]? := fun k hk => (C7.block k (by omega) (by
     rintro (h1 | h1)
     ·have := L8.out k h1; omega
     omega)).trans (p7.out.block k (by omega))
    have B8 := qZ (S7.out.keep (by omega) U6);have C0 := qZ (show ∀ k, lo <= k ∧ k < w3.heap.size -> ¬ aA8 g m es2 k from fun k hk hf => by
     rcases K0 k hf with h1 | h1
     ·have := L8.out k h1; omega
     omega)
    have p0 := qZ V0;have R5 : w3.heap.size <= w7.heap.size := by omega
    clear V0 K0 C7 U6 l7 p7 S7;change Hid (OpS w base g m es w.heap.size (w.heap.size + 1) (d1.remove nm).2 mt mv (.slice none 0 0) (aC3.run d1 (aC3.rm nm)).1 w7 es2) at p0;change Hid (aL5 d0 = if (aC3.run d1 (aC3.rm nm)).1 = 0 then aG3 (r.map aF7.o) (mt, mv) (d1.remove nm).2 else ((aC3.run d1 (aC3.rm nm)).1, none, (d1.remove nm).2)) at g6;obtain ⟨rc, G0⟩ : ∃ x, x = (aC3.run d1 (aC3.rm nm)).1 := ⟨_, rfl⟩
    rw [<- G0] at p0 g6 ⊢;clear G0;by_cases hz : rc = 0
    ·subst hz
     have O9 := qZ (g6.out.trans (if_pos rfl));clear g6;go_wp2_with fail
     go_meet;exact ⟨r, (d1.remove nm).2, es2, by rw [O3.out], by have := O3.out; omega, R5, p0, B8, O9, O6, i1, C0⟩
    have O9 := qZ (g6.out.trans (if_neg hz));have aB : (rc != 0) = true := bne_iff_ne.2 hz;have j4 : w7.cell? ⟨w.heap.size + 1, 4, none⟩ = some (.int .i64 rc) := p0.out.jb.cell 4;clear g6 hz;go_wp2_with fail
    go_quiet (fail);go_wp2_with fail
    go_ret2
    exact (p0.out.below (aA4 (lS _ w7) _)).endNone rc O9.out
  obtain ⟨a7, d2, es2, rfl, aM, N4, D1, S8, g6, O5, i1, C0⟩ := hcut;have aK : a7.length <= 1000000000 := by omega
  have aD : a7.length <= cl := by omega
  obtain ⟨nE, M8⟩ : ∃ n, n = wc.heap.size := ⟨_, rfl⟩
  have B7 := qZ (show ∀ k, aA8 g m es2 k -> k < nE from fun k hk => by rw [M8]; exact (D1.out.disk.lt k hk).2);have bH : w.heap.size + 1 < nE := by rw [M8]; exact D1.out.jb.lt
  rw [<- M8] at N4;have aU : nE <= wc.heap.size := by omega
  obtain ⟨sl, Y0⟩ : ∃ sl, sl = a7.map aF7.s := ⟨_, rfl⟩
  have I7 := qZ Y0;clear M8 Y0 i4 D7 t9 o9 o7 I6 g9 HR i6 aN L8 I1 C2 M0 aM P8;go_upto_block 0 with fail
  go_cut [] from 86 to 121 (fun wx => ∃ (st : Nat) (sv : Value), st <= a7.length ∧ (0 < a7.length -> st < a7.length) ∧ nE <= wx.heap.size ∧ Hid (aE0 [] sl = sl.drop st) ∧ Hid (OpS w base g m es w.heap.size (w.heap.size + 1) d2 mt mv sv 0 wx es2) ∧ Hid (aN4 wx (fun k => lo <= k ∧ k < w3.heap.size) Al a7) ∧ Hid (Own wx nE 108 sv (bG5 Al st a7.length)))
  case first =>
   go_wp2_with fail
   go_loopw [86, 8, 9] (fun i _ _ wr => ∃ (k st : Nat) (sv : Value), k <= a7.length ∧ i = .int .i64 k ∧ st <= k ∧ (0 < k -> st < k) ∧ nE <= wr.heap.size ∧ Hid (aE0 [] (sl.take k) = (sl.take k).drop st) ∧ Hid (OpS w base g m es w.heap.size (w.heap.size + 1) d2 mt mv sv 0 wr es2) ∧ Hid (aN4 wr (fun k => lo <= k ∧ k < w3.heap.size) Al a7) ∧ Hid (Own wr nE 108 sv (bG5 Al st k))) (fun i _ _ _ => a7.length - (intOf i).toNat)
   case atStart => exact ⟨0, 0, _, by omega, rfl, by omega, by omega, aU, qZ (by simp [aE0]), D1, S8, qZ (Own.nil _ _ _)⟩
   obtain ⟨k, st, sv, hk, rfl, G3, t7, S0, l8, HA, HL, HO⟩ := hrel;by_cases hlt : k < a7.length
   rotate_left
   ·obtain rfl : k = a7.length := by omega
    go_wp2_with fail
    go_meet;exact ⟨st, sv, G3, t7, S0, qZ (by have h1 := l8.out; rw [List.take_of_length_le (by rw [I7.out, lU]; exact lR _)] at h1; exact h1), HA, HL, HO⟩
   obtain ⟨gr, rfl, M2, M4, a9⟩ := HL.out.addr (by omega);have X9 : ∀ i (hi : i < a7.length), sl[i]'(by rw [I7.out, lU]; exact hi) = a7[i].s := fun i hi => by simp only [I7.out, List.getElem_map]
   have W5 : k < sl.length := by rw [I7.out, lU]; exact hlt
   obtain ⟨Bg, U4⟩ : ∃ B : Bool, B = true ↔ ∃ h0 : 0 < k, sl[k].goesOn (sl[k - 1]'(by omega)) = false := by
    by_cases hh : ∃ h0 : 0 < k, sl[k].goesOn (sl[k - 1]'(by omega)) = false
    ·exact ⟨true, Iff.intro (fun _ => hh) (fun _ => rfl)⟩
    exact ⟨false, Iff.intro (fun h => by cases h) (fun h => absurd h hh)⟩
   have D4 := qZ U4;have T9 := qZ X9;have N8 := qZ a9;clear U4 X9 a9;go_upto_region 18 with fail
   go_cut [104] from 93 to 104 (fun c wx => c = .bool Bg ∧ Hid (Below wr.heap.size wr wx))
   case first =>
    by_cases hk0 : 0 < k
    rotate_left
    ·have P2 : Bg = false := by
      cases Bg with
      | false => rfl
      | true => exact absurd (D4.out.1 rfl).1 hk0
     obtain rfl : k = 0 := by omega
     subst P2;go_wp2_with fail
     go_meet;exact ⟨rfl, qZ (lS _ _)⟩
    obtain ⟨j, hj⟩ : ∃ j, k = j + 1 := ⟨k - 1, by omega⟩
    have Q4 : j < a7.length := by omega
    have Q2 := (N8.out k hlt).1.goes (N8.out j Q4).1 (by have := (i1.out _ (lX Q4)).len; omega) (i1.out _ (lX hlt)).first;have V9 : sl[k - 1]'(by omega) = a7[j].s := by
     have e : k - 1 = j := by omega
     simp only [e];exact T9.out j Q4
    obtain ⟨gb, Q1⟩ : ∃ b, b = a7[k].s.goesOn a7[j].s := ⟨_, rfl⟩
    rw [<- Q1] at Q2;have P2 : Bg = ! gb := by
     have h1 : Bg = true ↔ gb = false := by
      rw [D4.out, Q1, <- T9.out k hlt, <- V9];exact ⟨fun ⟨_, h⟩ => h, fun h => ⟨hk0, h⟩⟩
     cases Bg <;> cases gb <;> simp_all
    have L9 := qZ Q2;have bI : (0 : Int) < (k : Int) := by omega
    have N3 : (k : Int) - 1 = (j : Int) := by omega
    have N4 : IntKind.i64.wrap (j : Int) = (j : Int) := mH _ (by omega);have aH : (j : Int) < (a7.length : Int) := by omega
    subst P2;clear Q2 V9 Q1 hj D4;cases gb with
    | true =>
     go_wp2_with fail
     refine L9.out.mono ?_;rintro e w2 ⟨rfl, q9⟩;have N7 := qZ q9;clear q9 L9;go_wp2_with fail
     go_meet;exact ⟨rfl, N7⟩
    | false =>
     go_wp2_with fail
     refine L9.out.mono ?_;rintro e w2 ⟨rfl, q9⟩;have N7 := qZ q9;clear q9 L9;go_wp2_with fail
     go_meet;exact ⟨rfl, N7⟩
   obtain ⟨rfl, D5⟩ := hcut;have bN := D5.out.size;have D3 := qZ (HA.out.below D5.out);have O2 := qZ (HL.out.keep D5.out.size (fun k hk => D5.out.block k (by omega)));have T7 := qZ (Own.below HO.out D5.out (lR _));have aV : nE <= wc.heap.size := by omega
   clear D5 HA HL HO;go_upto_if 104 with fail
   go_cut [] from 105 to 108 (fun wx => ∃ (l6 : Nat) (S2 : Value), l6 <= k ∧ nE <= wx.heap.size ∧ Hid (aE0 [] (sl.take (k + 1)) = (sl.take (k + 1)).drop l6) ∧ Hid (OpS w base g m es w.heap.size (w.heap.size + 1) d2 mt mv S2 0 wx es2) ∧ Hid (aN4 wx (fun k => lo <= k ∧ k < w3.heap.size) (some ⟨gr, 0, none⟩) a7) ∧ Hid (Own wx nE 108 S2 (bG5 (some ⟨gr, 0, none⟩) l6 k)))
   case first =>
    cases Bg with
    | true =>
     obtain ⟨h0, W9⟩ := D4.out.1 rfl;have I5 := qZ (dK8 W5 h0 t7 l8.out W9);have j2 : wc.cell? ⟨w.heap.size + 1, 2, none⟩ = some sv := D3.out.jb.cell 2;have z2 : wc.frozen? ⟨w.heap.size + 1, 2, none⟩ = false := D3.out.jb.frozen _;have Y9 := qZ (Blk.set_ D3.out.jb 2 (.slice none 0 0));clear h0 W9;go_wp2_with fail
     go_meet;refine ⟨k, .slice none 0 0, lR _, by have := (aA0 wc (w.heap.size + 1) 2 (.slice none 0 0)).size; omega, I5, qZ (D3.out.put (aA0 wc (w.heap.size + 1) 2 _) Y9.out), qZ (O2.out.keep (aA0 wc (w.heap.size + 1) 2 _).size (fun q hq => Below.heap_setCell _ _ _ _ (by show q ≠ w.heap.size + 1; omega))), qZ ?_⟩;unfold bG5;rw [Nat.sub_self];exact Own.nil _ _ _
    | false =>
     have V8 : ∀ h0 : 0 < k, sl[k].goesOn (sl[k - 1]'(by omega)) = true := fun h0 => by
      cases hh : sl[k].goesOn (sl[k - 1]'(by omega)) with
      | true => rfl
      | false => have := D4.out.2 ⟨h0, hh⟩; cases this
     have I5 := qZ (dE8 W5 t7 l8.out G3 V8);clear V8;go_wp2_with fail
     go_meet;exact ⟨st, sv, G3, aV, I5, D3, O2, T7⟩
   obtain ⟨l6, S2, R3, aY, I5, N6, T3, O7⟩ := hcut;clear D3 O2 T7 l8 D4 N8;obtain ⟨Ax, cx, R4, _, _, _⟩ := O7.out.shape;subst R4;have T8 := qZ (cK3 (some ⟨gr, 0, none⟩) l6 k);have r9 : Below wc.heap.size wc (wc.alloc (.cells #[.pointer (some ⟨gr, k * 6, none⟩)] 108)) := (lS _ wc).alloc (lR _) _;have Y6 := qZ (N6.out.below r9);have Z1 := qZ (T3.out.keep r9.size (fun q hq => r9.block q (by omega)));have O8 := qZ (Own.below O7.out r9 (lR _));have g8 := aG4 wc 108 [.pointer (some ⟨gr, k * 6, none⟩)];have C4 := qZ g8;have j2 : wc.cell? ⟨w.heap.size + 1, 2, none⟩ = some (.slice Ax (bG5 (some ⟨gr, 0, none⟩) l6 k).length cx) := N6.out.jb.cell 2;have bM := r9.size;have Z3 : Hid (∀ v6 w6, Own w6 nE 108 v6 (bG5 (some ⟨gr, 0, none⟩) l6 k ++ [Value.pointer (some ⟨gr, k * 6, none⟩)]) -> (wc.alloc (.cells #[.pointer (some ⟨gr, k * 6, none⟩)] 108)).grownBy w6 (Value.slice Ax (bG5 (some ⟨gr, 0, none⟩) l6 k).length cx).ownBlock -> OpS w base g m es w.heap.size (w.heap.size + 1) d2 mt mv (.slice Ax (bG5 (some ⟨gr, 0, none⟩) l6 k).length cx) 0 w6 es2 ∧ w6.cell? ⟨w.heap.size + 1, 2, none⟩ = some (.slice Ax (bG5 (some ⟨gr, 0, none⟩) l6 k).length cx) ∧ w6.frozen? ⟨w.heap.size + 1, 2, none⟩ = false ∧ ∃ A6 c6, v6 = .slice A6 (bG5 (some ⟨gr, 0, none⟩) l6 k ++ [Value.pointer (some ⟨gr, k * 6, none⟩)]).length c6) := qZ (fun v6 w6 j6 E8 => by
    have E6 := Y6.out.grown E8 (fun q hq => by
     have h1 := O8.out.lt q hq;exact ⟨by omega, by omega, fun hf => by have := B7.out q hf; omega, by omega⟩)
    obtain ⟨A6, c6, R7, _, _, _⟩ := j6.shape;exact ⟨E6, E6.jb.cell 2, E6.jb.frozen _, A6, c6, R7⟩)
   clear r9 g8 N6 T3 O7;go_wp2_with (at_builtin; go_must (refine aB5 rfl (.tmp 114) (.tmp 116) 49 rfl nE 108 (.pointer none) 8 Tryz.underlying49 aV7 rfl _ _ rfl O8.out (wc.heap.size + 1) (some ⟨wc.heap.size, 0, none⟩) 1 1 [.pointer (some ⟨gr, k * 6, none⟩)] rfl rfl C4.out (by simp [Value.oneCell']) (by rw [T8.out]; unfold maxLen; omega) (by rw [T8.out]; omega) (by simp <;> omega) ?_; intro v6 w6 j6 E8 aF; have D9 := qZ j6; have Y7 := qZ E8; have G2 := E8.size; obtain ⟨E6, bR, bS, A6, c6, R7⟩ := Z3.out v6 w6 j6 E8; subst R7; have B2 := qZ E6; clear j6 E8 aF E6))
   go_roundw
   case rel =>
    have M5 := aA0 w6 (w.heap.size + 1) 2 (.slice A6 ((bG5 (some ⟨gr, 0, none⟩) l6 k).length + 1) c6);have bO := M5.size;have K7 := D9.out;rw [lT] at K7;refine ⟨k + 1, l6, .slice A6 ((bG5 (some ⟨gr, 0, none⟩) l6 k).length + 1) c6, by omega, by go_num, by omega, fun _ => by omega, by omega, I5, qZ (B2.out.put M5 (Blk.set_ B2.out.jb 2 _)), qZ ((Z1.out.keep G2 (fun q hq => Y7.out.block q (by omega) (fun e => by have := O8.out.lt q e.symm; omega))).keep M5.size (fun q hq => Below.heap_setCell _ _ _ _ (by show q ≠ w.heap.size + 1; omega))), qZ ?_⟩;rw [cX6 _ R3];exact Own.far K7 M5 (by omega)
   case measure => simp [intOf]; omega
  obtain ⟨st, sv, G3, t7, aX, l8, B2, S9, D9⟩ := hcut;obtain ⟨As, cs, R4, J6, P9, _⟩ := D9.out.shape;subst R4;obtain ⟨ls, M7⟩ : ∃ n, n = (bG5 Al st a7.length).length := ⟨_, rfl⟩
  have K5 : ls = a7.length - st := by rw [M7]; exact cK3 _ _ _
  rw [<- M7] at B2 D9 J6;have bB := qZ M7;have aT : (a7.length : Int) - (ls : Int) = (st : Int) := by omega
  have aW : IntKind.i64.wrap (st : Int) = (st : Int) := mH _ (by omega);have aS : st <= cl := by omega
  have Y1 : (st : Int) <= (cl : Int) := by omega
  have j2 : wc.cell? ⟨w.heap.size + 1, 2, none⟩ = some (.slice As ls cs) := B2.out.jb.cell 2;have bF : w.heap.size < nE ∧ w3.heap.size <= nE := by omega
  have O1 := qZ K5;clear M7 K5 D1 S8;go_upto_block 2 with fail
  go_cut [10] from 134 to 145 (fun dv wx => ∃ (dv1 : Value) (vs : List Value), dv = dv1 ∧ nE <= wx.heap.size ∧ Hid (OpS w base g m es w.heap.size (w.heap.size + 1) d2 mt mv (.slice As ls cs) 0 wx es2) ∧ Hid (aN4 wx (fun k => lo <= k ∧ k < w3.heap.size) Al a7) ∧ Hid (Own wx nE 108 (.slice As ls cs) (bG5 Al st a7.length)) ∧ Hid (aY2 wx w.heap.size lo w3.heap.size nE (w.heap.size + 1) g dv1 vs ((a7.take st).map fun q => aC3.rm (aA1 q.s.k))))
  case first =>
   go_wp2_with fail
   go_loopw [134, 10, 12] (fun i dv _ wr => ∃ (k : Nat) (vs : List Value), k <= st ∧ i = .int .i64 k ∧ nE <= wr.heap.size ∧ Hid (OpS w base g m es w.heap.size (w.heap.size + 1) d2 mt mv (.slice As ls cs) 0 wr es2) ∧ Hid (aN4 wr (fun k => lo <= k ∧ k < w3.heap.size) Al a7) ∧ Hid (Own wr nE 108 (.slice As ls cs) (bG5 Al st a7.length)) ∧ Hid (aY2 wr w.heap.size lo w3.heap.size nE (w.heap.size + 1) g dv vs ((a7.take k).map fun q => aC3.rm (aA1 q.s.k)))) (fun i _ _ _ => st - (intOf i).toNat)
   case atStart => exact ⟨0, [], by omega, rfl, aX, B2, S9, D9, qZ aY2.nil⟩
   obtain ⟨k, vs, hk, rfl, S0, HA, HL, HO, HD⟩ := hrel;by_cases hlt : k < st
   rotate_left
   ·obtain rfl : k = st := by omega
    go_wp2_with fail
    go_meet;exact ⟨_, vs, rfl, S0, HA, HL, HO, HD⟩
   have Q5 : k < a7.length := by omega
   obtain ⟨gr, rfl, M2, M4, a9⟩ := HL.out.addr (by omega);obtain ⟨q, hq⟩ : ∃ q, q = a7[k] := ⟨_, rfl⟩
   have i3 := (a9 k Q5).2;rw [<- hq] at i3;have c0 : wr.cell? ⟨gr, k * 6, none⟩ = some (.int .i64 q.s.k) := i3 0 _ rfl;have c1 : wr.cell? ⟨gr, k * 6 + 1, none⟩ = some (.int .i64 q.s.first) := i3 1 _ rfl;have c2 : wr.cell? ⟨gr, k * 6 + 2, none⟩ = some (.int .i64 q.s.term) := i3 2 _ rfl;have c3 : wr.cell? ⟨gr, k * 6 + 3, none⟩ = some (.slice q.al q.rs.length q.cl) := i3 3 _ rfl;have c4 : wr.cell? ⟨gr, k * 6 + 4, none⟩ = some (.slice q.ae q.s.ends.length q.ce) := i3 4 _ rfl;have c5 : wr.cell? ⟨gr, k * 6 + 5, none⟩ = some (.bool q.tn) := i3 5 _ rfl;have C9 := (i1.out q (by rw [hq]; exact lX Q5)).k;have Y2 : a7.take (k + 1) = a7.take k ++ [q] := by rw [List.take_add_one, lW Q5, hq]; rfl
   have Z8 := qZ Y2;obtain ⟨wb, p6⟩ : ∃ W, W = wr.alloc (.cells #[.int .i64 q.s.k, .int .i64 q.s.first, .int .i64 q.s.term, .slice q.al q.rs.length q.cl, .slice q.ae q.s.ends.length q.ce, .bool q.tn] 106) := ⟨_, rfl⟩
   have m6 : Below wr.heap.size wr wb := by rw [p6]; exact (lS _ wr).alloc (lR _) _
   have E7 : Blk wb wr.heap.size 106 #[.int .i64 q.s.k, .int .i64 q.s.first, .int .i64 q.s.term, .slice q.al q.rs.length q.cl, .slice q.ae q.s.ends.length q.ce, .bool q.tn] := by rw [p6]; exact Blk.new wr _ _
   have t8 := qZ (HA.out.below m6);have p8 := qZ m6;have m0 := qZ (aN8 wr.heap.size 0 q.s.k (by omega) wb (E7.cell 0) (HE.out wb (t8.out.baseB j9.out C5)).1);have I8 := qZ p6;have K9 := aJ8 q.s.k (by omega);obtain ⟨nm, p5⟩ : ∃ n, n = aA1 q.s.k := ⟨_, rfl⟩
   have x5 := qZ p5;rw [<- p5] at m0 K9;have N2 := m6.size;clear hq i3 a9 Y2 p6 m6 E7 p5;go_upto_region 26 with fail
   rw [<- I8.out];go_wp2_with fail
   refine m0.out.mono ?_;rintro e w5 ⟨rfl, m3⟩;have p7 := qZ (p8.out.trans (m3.mono N2));have N0 := p7.out.size;clear m3 m0 p8 c0 c1 c2 c3 c4 c5;go_wp2_with fail
   refine (show Calls _ _ _ w5 _ from bQ3 (gj := w.heap.size + 1) (g := g) nm (by omega) w5).mono ?_;rintro e w6 ⟨v6, rfl, m5, ⟨F6, a8, rfl⟩, n6, g7⟩;have G2 := m5.size;have m4 := m5.alloc G2 (.cells #[.func (.func F6) #[] a8] 98);have f8 : Below wr.heap.size wr (w6.alloc (.cells #[.func (.func F6) #[] a8] 98)) := p7.out.trans (m4.mono N0);have X8 := f8.size;have l4 := (lS w6.heap.size w6).alloc (lR _) (.cells #[.func (.func F6) #[] a8] 98);have z8 := (g7 (EF w.heap.size lo w3.heap.size nE w6) (fun x h1 h2 => .inr (.inr ⟨by omega, h2, n6 x h1 h2⟩)));obtain ⟨e1, e2⟩ := EF.below (bd := w.heap.size) (lo := lo) (hi := w3.heap.size) (nE := nE) l4 ⟨by omega, by omega, by omega⟩;have G8 := qZ ((z8.keep l4.size e1).mono e2);have G5 := qZ (HA.out.below f8);have I0 := qZ (HL.out.keep f8.size (fun q hq => f8.block q (by omega)));have x6 := qZ (Own.below HO.out f8 (lR _));have o8 := qZ (HD.out.below f8 ⟨by omega, by omega, by omega⟩);have g8 := aG4 w6 98 [.func (.func F6) #[] a8];have C4 := qZ g8;have G4 : vs.length = k := by rw [HD.out.len, lU, lV]; omega
   have q7 := qZ G4;obtain ⟨Ad, cd, l5, _, _, _⟩ := o8.out.own.shape;subst l5;have e9 := qZ o8.out.own;have j8 : nE <= (w6.alloc (.cells #[.func (.func F6) #[] a8] 98)).heap.size := by omega
   clear m5 g7 n6 m4 f8 l4 z8 e1 e2 g8 G4 p7 HA HL HO HD t8 I8;go_wp2_with (at_builtin; go_must (refine aB5 rfl (.tmp 138) (.tmp 143) 110 rfl nE 98 .nilFunc 8 Tryz.underlying110 aN2 rfl _ _ rfl e9.out (w6.heap.size + 1) (some ⟨w6.heap.size, 0, none⟩) 1 1 [.func (.func F6) #[] a8] rfl rfl C4.out (by simp [Value.oneCell']) (by rw [q7.out]; unfold maxLen; omega) (by rw [q7.out]; omega) j8 ?_; intro v8 w8 f9 y9 J8; have C1 := qZ f9; have i2 := qZ y9; clear f9 y9 J8))
   go_roundw
   case rel =>
    have n8 := i2.out.size;have d8 : ∀ r, (Value.slice Ad vs.length cd).ownBlock = some r -> nE <= r ∧ ∃ cs fz, (w6.alloc (.cells #[.func (.func F6) #[] a8] 98)).heap[r]? = some (.cells cs 98 fz) := fun r e => by
     obtain ⟨cs, hc⟩ := aD1 e9.out e;exact ⟨(e9.out.lt r e).1, cs, _, hc⟩
    refine ⟨k + 1, vs ++ [.func (.func F6) #[] a8], by omega, by go_num, by omega, qZ (G5.out.grown i2.out (fun r e => by
     have h1 := (d8 r e).1;exact ⟨by omega, by omega, fun hf => by have := B7.out r hf; omega, by omega⟩)), qZ (I0.out.keep n8 (fun q hq => i2.out.block q (by omega) (fun e => by have := (d8 q e.symm).1; omega))), qZ (Own.kept x6.out i2.out (jrow_type_ne x6.out e9.out (by decide))), qZ ?_⟩
    rw [Z8.out, mE, mG, List.map_nil, <- x5.out];exact o8.out.push ⟨by omega, by omega, j8⟩ G8.out rfl i2.out C1.out
   case measure => simp [intOf]; omega
  obtain ⟨Z9, B1, l5, aZ, L5, B8, p0, G7⟩ := hcut;have m7 := l5.symm;clear l5;subst m7;clear B2 S9 D9 j2;go_upto_if 148 with fail
  go_cut [10, 13] from 146 to 167 (fun dv _ wx => ∃ (dv1 : Value) (vs : List Value), dv = dv1 ∧ nE <= wx.heap.size ∧ Hid (OpS w base g m es w.heap.size (w.heap.size + 1) d2 mt mv (.slice As ls cs) 0 wx es2) ∧ Hid (aN4 wx (fun k => lo <= k ∧ k < w3.heap.size) Al a7) ∧ Hid (Own wx nE 108 (.slice As ls cs) (bG5 Al st a7.length)) ∧ Hid (aY2 wx w.heap.size lo w3.heap.size nE (w.heap.size + 1) g dv1 vs ((a7.take st).map (fun q => aC3.rm (aA1 q.s.k)) ++ bD6 a7)))
  case first =>
   rcases mJ a7 with h0 | ⟨r, q, h0⟩
   ·have V5 : aY2 wc w.heap.size lo w3.heap.size nE (w.heap.size + 1) g Z9 B1 ((a7.take st).map (fun q => aC3.rm (aA1 q.s.k)) ++ bD6 a7) := by
     rw [show bD6 a7 = [] by rw [h0]; rfl, List.append_nil];exact G7.out
    have p9 := qZ V5;have bJ : ¬ (0 : Int) < (a7.length : Int) := by rw [h0]; simp
    clear V5 h0 G7;go_wp2_with fail
    go_meet;exact ⟨_, B1, rfl, aZ, L5, B8, p0, p9⟩
   rw [mA] at h0;have D0 : a7.length = r.length + 1 := by rw [h0]; simp
   obtain ⟨gr, rfl, M2, M4, a9⟩ := B8.out.addr (by omega);have z7 : a7[r.length]'(by omega) = q := by simp [h0]
   have i3 := (a9 r.length (by omega)).2;rw [z7] at i3;have Y3 : bD6 a7 = (if q.tn = true then [.cut (aA1 q.s.k) q.s.long] else []) ++ [.sync (aA1 q.s.k)] := by rw [h0]; exact cP6 r q
   have U0 := qZ Y3;have X6 : q ∈ a7 := by rw [h0]; simp
   have I4 := qZ (i1.out q X6);have C9 := I4.out.k;obtain ⟨n1, p4⟩ : ∃ n, n = r.length := ⟨_, rfl⟩
   rw [<- p4] at i3;have O3 := qZ (show a7.length = n1 + 1 by omega);have Y8 := qZ (show ∃ h : n1 < a7.length, q = a7[n1] from ⟨by omega, by simp [p4, h0]⟩);have c0 : wc.cell? ⟨gr, n1 * 6, none⟩ = some (.int .i64 q.s.k) := i3 0 _ rfl;have c1 : wc.cell? ⟨gr, n1 * 6 + 1, none⟩ = some (.int .i64 q.s.first) := i3 1 _ rfl;have c2 : wc.cell? ⟨gr, n1 * 6 + 2, none⟩ = some (.int .i64 q.s.term) := i3 2 _ rfl;have c3 : wc.cell? ⟨gr, n1 * 6 + 3, none⟩ = some (.slice q.al q.rs.length q.cl) := i3 3 _ rfl;have c4 : wc.cell? ⟨gr, n1 * 6 + 4, none⟩ = some (.slice q.ae q.s.ends.length q.ce) := i3 4 _ rfl;have c5 : wc.cell? ⟨gr, n1 * 6 + 5, none⟩ = some (.bool q.tn) := i3 5 _ rfl;have N3 : (a7.length : Int) - 1 = (n1 : Int) := by omega
   have R8 : IntKind.i64.wrap (n1 : Int) = (n1 : Int) := mH _ (by omega);have K8 : (0 : Int) < (a7.length : Int) := by omega
   have Q6 : n1 < a7.length := by omega
   have C8 : (n1 : Int) < (a7.length : Int) := by omega
   obtain ⟨wb, p6⟩ : ∃ W, W = wc.alloc (.cells #[.int .i64 q.s.k, .int .i64 q.s.first, .int .i64 q.s.term, .slice q.al q.rs.length q.cl, .slice q.ae q.s.ends.length q.ce, .bool q.tn] 106) := ⟨_, rfl⟩
   have m6 : Below wc.heap.size wc wb := by rw [p6]; exact (lS _ wc).alloc (lR _) _
   have E7 : Blk wb wc.heap.size 106 #[.int .i64 q.s.k, .int .i64 q.s.first, .int .i64 q.s.term, .slice q.al q.rs.length q.cl, .slice q.ae q.s.ends.length q.ce, .bool q.tn] := by rw [p6]; exact Blk.new wc _ _
   have I8 := qZ p6;have N2 : wb.heap.size = wc.heap.size + 1 := by rw [p6]; simp
   have t8 := qZ (L5.out.below m6);have I2 := qZ (B8.out.keep m6.size (fun k hk => m6.block k (by omega)));have M1 := qZ (Own.below p0.out m6 (lR _));have D6 := qZ (G7.out.below m6 ⟨by omega, by omega, by omega⟩);obtain ⟨bb, P7⟩ : ∃ n, n = wc.heap.size := ⟨_, rfl⟩
   rw [<- P7] at E7 N2;have P6 : nE <= bb := by omega
   have aQ : bb < wb.heap.size := by omega
   have aR : nE <= wb.heap.size := by omega
   clear N2;have S3 := qZ P7;have B5 := qZ E7;obtain ⟨Ab, cb, aE, _, _, _⟩ := D6.out.own.shape;subst aE;have G4 : B1.length <= 1000000000 := by rw [D6.out.len, lU, lV]; omega
   clear h0 z7 a9 p4 D0 i3 Y3 X6 p6 m6 E7 P7 L5 B8 p0 G7;go_upto_region 30 with fail
   rw [<- I8.out, <- S3.out, show decide (0 < a7.length) = true from decide_eq_true (by omega)];clear c0 c1 c2 c3 c4 c5 I8 S3 N3 R8 K8 Q6 C8;obtain ⟨tn, R6⟩ : ∃ t, t = q.tn := ⟨_, rfl⟩
   have b5 : wb.cell? ⟨bb, 5, none⟩ = some (.bool tn) := by rw [R6]; exact B5.out.cell 5
   rw [<- R6] at U0;clear R6;go_upto_if 156 with fail
   go_cut [10] from 155 to 160 (fun dv wx => ∃ (dv1 : Value) (vs : List Value), dv = dv1 ∧ bb < wx.heap.size ∧ vs.length <= 1000000001 ∧ Hid (OpS w base g m es w.heap.size (w.heap.size + 1) d2 mt mv (.slice As ls cs) 0 wx es2) ∧ Hid (aN4 wx (fun k => lo <= k ∧ k < w3.heap.size) (some ⟨gr, 0, none⟩) a7) ∧ Hid (Own wx nE 108 (.slice As ls cs) (bG5 (some ⟨gr, 0, none⟩) st a7.length)) ∧ wx.cell? ⟨bb, 0, none⟩ = some (.int .i64 q.s.k) ∧ Hid (aY2 wx w.heap.size lo w3.heap.size nE (w.heap.size + 1) g dv1 vs ((a7.take st).map (fun q => aC3.rm (aA1 q.s.k)) ++ if tn = true then [.cut (aA1 q.s.k) q.s.long] else [])))
   case first =>
    have b0 : wb.cell? ⟨bb, 0, none⟩ = some (.int .i64 q.s.k) := B5.out.cell 0;cases tn with
    | false =>
     have V6 : aY2 wb w.heap.size lo w3.heap.size nE (w.heap.size + 1) g (.slice Ab B1.length cb) B1 ((a7.take st).map (fun q => aC3.rm (aA1 q.s.k)) ++ if false = true then [.cut (aA1 q.s.k) q.s.long] else []) := by
      rw [if_neg (by decide), List.append_nil];exact D6.out
     have L7 := qZ V6;have B0 := qZ b0;clear V6 b0;go_wp2_with fail
     go_meet;exact ⟨_, B1, rfl, by omega, by omega, t8, I2, M1, B0.out, L7⟩
    | true =>
     have z8 : aK3 wb (EF w.heap.size lo w3.heap.size nE wb) (w.heap.size + 1) g (.func (.func 54) #[] #[.pointer (some ⟨w.heap.size, 0, none⟩), .pointer (some ⟨bb, 0, none⟩)]) (.cut (aA1 q.s.k) q.s.long) := by
      obtain ⟨hi, aL⟩ := Y8.out;exact .inl ⟨w.heap.size, bb, q.s, rfl, .inl rfl, t8.out.bx.cell 0, I4.out.segM (I2.out.box hi aL B5.out (fun k hk => .inr (.inl hk)) (EF.fresh B5.out P6 (by decide))), rfl, rfl⟩
     have f8 := (lS _ wb).alloc (lR _) (.cells #[.func (.func 54) #[] #[.pointer (some ⟨w.heap.size, 0, none⟩), .pointer (some ⟨bb, 0, none⟩)]] 98);obtain ⟨e1, e2⟩ := EF.below (bd := w.heap.size) (lo := lo) (hi := w3.heap.size) (nE := nE) f8 ⟨by omega, by omega, by omega⟩;have G8 := qZ ((z8.keep f8.size e1).mono e2);have X8 := f8.size;have G5 := qZ (t8.out.below f8);have I0 := qZ (I2.out.keep f8.size (fun k hk => f8.block k (by omega)));have x6 := qZ (Own.below M1.out f8 (lR _));have o8 := qZ (D6.out.below f8 ⟨by omega, by omega, by omega⟩);have S4 := qZ (B5.out.below f8 B5.out.lt);have g8 := aG4 wb 98 [.func (.func 54) #[] #[.pointer (some ⟨w.heap.size, 0, none⟩), .pointer (some ⟨bb, 0, none⟩)]];have C4 := qZ g8;have q7 := qZ G4;have e9 := qZ o8.out.own;have j8 : nE <= (wb.alloc (.cells #[.func (.func 54) #[] #[.pointer (some ⟨w.heap.size, 0, none⟩), .pointer (some ⟨bb, 0, none⟩)]] 98)).heap.size := by omega
     have Z6 := qZ C9;clear z8 e1 e2 g8 t8 I2 M1 D6 b0 G4 f8 C9;go_wp2_with (at_builtin; go_must (refine aB5 rfl (.tmp 157) (.tmp 159) 110 rfl nE 98 .nilFunc 8 Tryz.underlying110 aN2 rfl _ _ rfl e9.out (wb.heap.size + 1) (some ⟨wb.heap.size, 0, none⟩) 1 1 [.func (.func 54) #[] #[.pointer (some ⟨w.heap.size, 0, none⟩), .pointer (some ⟨bb, 0, none⟩)]] rfl rfl C4.out (by simp [Value.oneCell']) (by have := q7.out; unfold maxLen; omega) (by have := q7.out; omega) j8 ?_; intro v8 w8 f9 y9 J8; have C1 := qZ f9; have i2 := qZ y9; clear f9 y9 J8))
     go_meet;have n8 := i2.out.size;have d8 : ∀ r, (Value.slice Ab B1.length cb).ownBlock = some r -> nE <= r ∧ ∃ cs fz, (wb.alloc (.cells #[.func (.func 54) #[] #[.pointer (some ⟨w.heap.size, 0, none⟩), .pointer (some ⟨bb, 0, none⟩)]] 98)).heap[r]? = some (.cells cs 98 fz) := fun r e => by
      obtain ⟨cs, hc⟩ := aD1 e9.out e;exact ⟨(e9.out.lt r e).1, cs, _, hc⟩
     have J4 : Blk w8 bb _ _ := S4.out.grown i2.out (fun e => by
      obtain ⟨_, cs, fz, h1⟩ := d8 bb e.symm;have h2 := h1.symm.trans S4.out;injection h2 with h2
      injection h2 with _ h2 _
      exact absurd h2 (by decide))
     refine ⟨_, B1 ++ [.func (.func 54) #[] #[.pointer (some ⟨w.heap.size, 0, none⟩), .pointer (some ⟨bb, 0, none⟩)]], rfl, J4.lt, by have := q7.out; simp; omega, qZ (G5.out.grown i2.out (fun r e => by
      have h1 := (d8 r e).1;exact ⟨by omega, by omega, fun hf => by have := B7.out r hf; omega, by omega⟩)), qZ (I0.out.keep n8 (fun q hq => i2.out.block q (by omega) (fun e => by have := (d8 q e.symm).1; omega))), qZ (Own.kept x6.out i2.out (jrow_type_ne x6.out e9.out (by decide))), J4.cell 0, qZ ?_⟩
     rw [if_pos trivial];exact o8.out.push ⟨by omega, by omega, j8⟩ G8.out rfl i2.out C1.out
   obtain ⟨bD, Y5, l5, aA, L1, N5, T0, E1, b0, L7⟩ := hcut;have m7 := l5.symm;clear l5;subst m7;clear t8 I2 M1 D6 B5 G4 b5;have K9 := aJ8 q.s.k (by omega);have m0 := qZ (aN8 bb 0 q.s.k (by omega) wc b0 (HE.out wc (N5.out.baseB j9.out C5)).1);obtain ⟨nm, p5⟩ : ∃ n, n = aA1 q.s.k := ⟨_, rfl⟩
   have x5 := qZ p5;rw [<- p5] at m0 K9;have Z6 := qZ C9;clear p5 C9 b0;go_wp2_with fail
   refine m0.out.mono ?_;rintro e w5 ⟨rfl, m3⟩;have p7 := qZ m3;have N0 := m3.size;clear m3 m0;go_wp2_with fail
   refine (show Calls _ _ _ w5 _ from bH9 (gj := w.heap.size + 1) (g := g) nm (by omega) w5).mono ?_;rintro e w6 ⟨v6, rfl, m5, ⟨F6, a8, rfl⟩, n6, g7⟩;have G2 := m5.size;have m4 := m5.alloc G2 (.cells #[.func (.func F6) #[] a8] 98);have f8 : Below wc.heap.size wc (w6.alloc (.cells #[.func (.func F6) #[] a8] 98)) := p7.out.trans (m4.mono N0);have X8 := f8.size;have l4 := (lS w6.heap.size w6).alloc (lR _) (.cells #[.func (.func F6) #[] a8] 98);have z8 := (g7 (EF w.heap.size lo w3.heap.size nE w6) (fun x h1 h2 => .inr (.inr ⟨by omega, h2, n6 x h1 h2⟩)));obtain ⟨e1, e2⟩ := EF.below (bd := w.heap.size) (lo := lo) (hi := w3.heap.size) (nE := nE) l4 ⟨by omega, by omega, by omega⟩;have G8 := qZ ((z8.keep l4.size e1).mono e2);have G5 := qZ (N5.out.below f8);have I0 := qZ (T0.out.keep f8.size (fun q hq => f8.block q (by omega)));have x6 := qZ (Own.below E1.out f8 (lR _));have o8 := qZ (L7.out.below f8 ⟨by omega, by omega, by omega⟩);have g8 := aG4 w6 98 [.func (.func F6) #[] a8];have C4 := qZ g8;have q7 := qZ L1;obtain ⟨Ad, cd, l5, _, _, _⟩ := o8.out.own.shape;subst l5;have e9 := qZ o8.out.own;have j8 : nE <= (w6.alloc (.cells #[.func (.func F6) #[] a8] 98)).heap.size := by omega
   clear m5 g7 n6 m4 f8 l4 z8 e1 e2 g8 L1 p7 N5 T0 E1 L7;go_wp2_with (at_builtin; go_must (refine aB5 rfl (.tmp 161) (.tmp 166) 110 rfl nE 98 .nilFunc 8 Tryz.underlying110 aN2 rfl _ _ rfl e9.out (w6.heap.size + 1) (some ⟨w6.heap.size, 0, none⟩) 1 1 [.func (.func F6) #[] a8] rfl rfl C4.out (by simp [Value.oneCell']) (by have := q7.out; unfold maxLen; omega) (by have := q7.out; omega) j8 ?_; intro v8 w8 f9 y9 J8; have C1 := qZ f9; have i2 := qZ y9; clear f9 y9 J8))
   go_meet;have n8 := i2.out.size;have d8 : ∀ r, (Value.slice Ad Y5.length cd).ownBlock = some r -> nE <= r ∧ ∃ cs fz, (w6.alloc (.cells #[.func (.func F6) #[] a8] 98)).heap[r]? = some (.cells cs 98 fz) := fun r e => by
    obtain ⟨cs, hc⟩ := aD1 e9.out e;exact ⟨(e9.out.lt r e).1, cs, _, hc⟩
   refine ⟨_, Y5 ++ [.func (.func F6) #[] a8], rfl, by omega, qZ (G5.out.grown i2.out (fun r e => by
    have h1 := (d8 r e).1;exact ⟨by omega, by omega, fun hf => by have := B7.out r hf; omega, by omega⟩)), qZ (I0.out.keep n8 (fun q hq => i2.out.block q (by omega) (fun e => by have := (d8 q e.symm).1; omega))), qZ (Own.kept x6.out i2.out (jrow_type_ne x6.out e9.out (by decide))), qZ ?_⟩
   rw [U0.out, <- List.append_assoc, <- x5.out];have X4 := o8.out.push ⟨by omega, by omega, j8⟩ G8.out rfl i2.out C1.out;rw [<- x5.out] at X4;exact X4
  obtain ⟨bC, vs, l5, bP, B4, Z0, C1, p9⟩ := hcut;have m7 := l5.symm;clear l5;subst m7;clear L5 B8 p0 G7;obtain ⟨al, J1⟩ : ∃ a, a = (a7.take st).map (fun q => aC3.rm (aA1 q.s.k)) ++ bD6 a7 := ⟨_, rfl⟩
  have q8 : al.length <= 1000000002 := by
   rw [J1, lT, lU, lV];have := dF5 a7;omega
  have V3 : aF4 al = 0 := by rw [J1]; exact cY7 _ _
  rw [<- J1] at p9;obtain ⟨Ad, cd, l5, _, _, _⟩ := p9.out.own.shape;rw [p9.out.len] at l5;subst l5;have l7 := qZ (aR7 (E := fun k => k = w.heap.size ∨ (lo <= k ∧ k < w3.heap.size) ∨ (nE <= k ∧ k < wc.heap.size)) B4.out.disk B4.out.jb (by omega) Ad vs al cd (RdF.of_own p9.out.own (fun k h1 h2 => .inr (.inr ⟨h1, h2⟩))) p9.out.len (fun k h h' => (p9.out.acts k h h').mono (fun x hx => by
   rcases hx with hx | hx | hx
   ·exact .inl hx
   ·exact .inr (.inl hx)
   ·exact .inr (.inr ⟨hx.1, hx.2.1⟩))) (fun k hk => by
   rcases hk with rfl | hk | hk
   ·exact ⟨by omega, B4.out.nb, by omega⟩
   ·exact ⟨by omega, C0.out k hk, by omega⟩
   exact ⟨hk.2, fun hf => by have := B7.out k hf; omega, by omega⟩) (fun w' hb' => (HE.out w' ((B4.out.baseB j9.out C5).trans hb')).1) (L := L) (by rw [DkD.eta' d2 B4.out.fs]; exact O5.out) (by rw [V3]; omega) (by omega))
  rw [DkD.eta' d2 B4.out.fs] at l7;obtain ⟨rc, d3, hR⟩ : ∃ rc d3, aG1 al d2 = (rc, d3) := ⟨_, _, rfl⟩
  rw [hR] at l7;have X2 := cF1 a7 (mt, mv) d2 G3 (by have h1 := l8.out; rw [I7.out] at h1; exact h1) (r := (rc, d3)) (by rw [<- hR, J1]);have m2 := qZ (g6.out.trans X2);dsimp only at l7 m2
  clear X2 hR J1 V3 q8;go_wp2_with fail
  refine l7.out.mono ?_;rintro e w9 ⟨rfl, I9⟩;obtain ⟨bE, V1, V7, Q0⟩ := B4.out.acts I9;have E1 := qZ V1;have S6 := qZ V7;have S5 := qZ Q0;have X7 := Q0.size;clear I9 V1 V7 Q0 l7 p9;by_cases hz : rc = 0
  ·subst hz
   have C3 := qZ (show aL5 d0 = (0, some ⟨mt, mv, (a7.map aF7.s).drop st, 0⟩, d3) by rw [m2.out]; rfl);clear m2;go_wp2_with fail
   go_ret2
   refine OpS.endSome (F1 := fun k => lo <= k ∧ k < w3.heap.size) (F2 := fun k => nE <= k ∧ k < wc.heap.size) E1.out (Z0.out.keep X7 (fun k hk => S5.out.block k (by omega) (by
    rintro (h1 | h1)
    ·exact C0.out k hk h1
    ·omega))) G3 O1.out ⟨J6, P9⟩ ((RdF.of_own C1.out (F := fun k => nE <= k ∧ k < wc.heap.size) (fun k h1 h2 => ⟨h1, h2⟩)).keep X7 (fun k hk => S5.out.block k hk.2 (by
    rintro (h1 | h1)
    ·have := B7.out k h1; omega
    omega))) i1.out aK (Z2.out mt mv rfl) (fun k hk => ?_) C3.out
   rcases hk with hk | hk
   ·refine ⟨by omega, by omega, by omega, fun hf => ?_⟩
    rcases S6.out k hf with h1 | h1
    ·exact C0.out k hk h1
    omega
   refine ⟨by omega, by omega, by omega, fun hf => ?_⟩;rcases S6.out k hf with h1 | h1
   ·have := B7.out k h1; omega
   omega
  have aB : (rc != 0) = true := bne_iff_ne.2 hz;have C3 := qZ (show aL5 d0 = (rc, none, d3) by rw [m2.out, if_neg hz]);have j4 : w9.cell? ⟨w.heap.size + 1, 4, none⟩ = some (.int .i64 rc) := E1.out.jb.cell 4;clear m2 hz;go_wp2_with fail
  go_quiet (fail);go_wp2_with fail
  go_ret2
  exact (E1.out.below (aA4 (lS _ w9) _)).endNone rc C3.out
end
section
open Go.RowKit Go.Maps Oct
def bC7 (re : Int) : List aC3 := if re = 0 then [.rm aA3] else []
def aQ6 (re : Int) (p : List UInt8) : List aC3 := bC7 re ++ [.app aA3 p, .sync aA3, .ren]
theorem cG0 {j : JnP} {d : DkD} {t v : Int} (hb : j.bad = 0) (h : ¬ (t < 0 ∨ v < 0)) : aE2 j d t v = if d.free + (d.read aA3).1.length < (aP4 t v).length then (52, j, d) else
  ((aG1 (aQ6 (d.read aA3).2 (aP4 t v)) d).1, if (aG1 (aQ6 (d.read aA3).2 (aP4 t v)) d).1 = 0 then ⟨t, v, j.segs, 0⟩ else { j with bad := (aG1 (aQ6 (d.read aA3).2 (aP4 t v)) d).1 }, (aG1 (aQ6 (d.read aA3).2 (aP4 t v)) d).2) := by
 unfold aE2;rw [if_neg (by rw [hb]; simp), if_neg h]
 rfl
theorem bE9 {w : World} {base g m gj : Nat} {F : Nat -> Prop} {d : DkD} {j : JnP} {es : List (Nm × FE)} (h : JnK w base g m gj F d j es) (D3 : base <= w.heap.size) {L : Nat} (J6 : JDk L d) (hL : L <= 100000000000) (hE : ∀ w', Below base w w' -> Tab w')
  (t v : Int) (ht : -9223372036854775808 <= t ∧ t <= 9223372036854775807) (hv : -9223372036854775808 <= v ∧ v <= 9223372036854775807) :
  Calls Tryz.prog 16 #[.pointer (some ⟨gj, 0, none⟩), .int .i64 t, .int .i64 v] w fun e w' => cC5 w base g m gj es F (aE2 j d t v) e w' := by
 obtain ⟨sv, x6, l5⟩ := h.jn.turn;have i3 := qZ l5;have L9 := x6.lt;obtain ⟨jb, D4⟩ : ∃ x, x = j.bad := ⟨_, rfl⟩
 rw [<- D4] at x6;have q9 := qZ D4;obtain ⟨w0, B1⟩ : ∃ W, W = w.alloc (.cells #[.pointer (some ⟨gj, 0, none⟩)] 30) := ⟨_, rfl⟩
 have x5 : Below w.heap.size w w0 := by rw [B1]; exact (lS _ w).alloc (lR _) _
 have x7 : Blk w0 w.heap.size 30 #[.pointer (some ⟨gj, 0, none⟩)] := by rw [B1]; exact Blk.new w _ _
 have C8 := x6.below x5 L9;have b0 : w0.cell? ⟨w.heap.size, 0, none⟩ = some (.pointer (some ⟨gj, 0, none⟩)) := x7.cell 0;have j4 : w0.cell? ⟨gj, 4, none⟩ = some (.int .i64 jb) := C8.cell 4;have m3 := qZ x5;have d8 := qZ x7;have C1 := qZ C8;have HH := qZ h;have r9 := qZ J6;have HE := qZ hE;have I0 := qZ B1;have HT := qZ ht;have HV := qZ hv;have D6 := x5.size;have f7 := x7.lt;clear h J6 hE B1 x5 x7 C8 x6 D4 l5 ht hv;go_enter Tryz.func16, Tryz.ntmps16
 go_upto_region 1 with fail
 rw [<- I0.out];by_cases hb : jb = 0
 rotate_left
 ·have L5 : (jb != 0) = true := bne_iff_ne.2 hb
  have HR := qZ (show aE2 j d t v = (jb, j, d) by unfold aE2; rw [if_pos (by rw [<- q9.out]; exact hb), q9.out]);clear hb;go_wp2_with fail
  go_ret
  exact HH.out.same m3.out HR.out
 subst hb;by_cases htv : t < 0 ∨ v < 0
 ·have HR := qZ (show aE2 j d t v = (1, j, d) by unfold aE2; rw [if_neg (by rw [<- q9.out]; simp), if_pos htv])
  by_cases h1 : t < 0
  ·clear htv
   go_wp2_with fail
   go_ret
   exact HH.out.same m3.out HR.out
  have h2 : v < 0 := htv.resolve_left h1;clear htv;go_wp2_with fail
  go_ret
  exact HH.out.same m3.out HR.out
 have h1 : ¬ t < 0 := fun h => htv (.inl h)
 have h2 : ¬ v < 0 := fun h => htv (.inr h)
 have i2 := qZ (cG0 (d := d) q9.out.symm htv);clear htv;have D1 : Below w0.heap.size w0 (w0.alloc (.cells #[.int .i64 t, .int .i64 v] 3)) := (lS _ w0).alloc (lR _) _;have D8 : ∀ n ∈ [t, v], -9223372036854775808 <= n ∧ n <= 9223372036854775807 := by
  intro n hn;rcases List.mem_cons.1 hn with rfl | hn
  ·exact HT.out
  obtain rfl := List.mem_singleton.1 hn;exact HV.out
 have HN := qZ (bL0 (some ⟨w0.heap.size, 0, none⟩) [t, v] 2 (w0.alloc (.cells #[.int .i64 t, .int .i64 v] 3)) ((aG4 w0 3 [.int .i64 t, .int .i64 v]).more (by simp)) D8 (by simp));have M5 := D1.size;have E1 := qZ D1;have J5 : (aH1 [t, v]).length <= 20 := aI7 (z := [t, v]) D8;have C3 := qZ J5;clear D1 D8 J5;go_wp2_with fail
 refine HN.out.mono ?_;rintro e w2 ⟨v2, rfl, K0, C9⟩;obtain ⟨A2, c2, rfl, k1, k2, k3⟩ := aD5 K0;have J8 := C9.size;have E2 := qZ (aY8 A2 (aH1 [t, v]) c2 w2 k3 (by have := C3.out; omega));have D9 := qZ (E1.out.trans (C9.mono M5));clear K0 C9 k3 HN E1;go_wp2_with fail
 refine E2.out.mono ?_;rintro e w3 ⟨v3, rfl, p9, D0⟩;change Got w3 w2.heap.size v3 (aP4 t v) at p9;obtain ⟨p, hp⟩ : ∃ p, p = aP4 t v := ⟨_, rfl⟩
 rw [<- hp] at p9 i2;have N6 : p.length <= 1048600 := by rw [hp]; exact aF3 (by have := C3.out; omega)
 obtain ⟨A3, c3, rfl, p1, p2, _⟩ := p9.shape;have N7 := D0.size;have n8 := qZ (D9.out.trans (D0.mono (by omega)));have G6 := qZ (p9.mono (by omega : w.heap.size <= w2.heap.size));have E9 := qZ (HH.out.below (m3.out.trans (n8.out.mono D6)));have K5 := qZ (bK9 (pw := d.pw) (room := d.room) (es := es) (L := L) (by rw [DkD.eta' d HH.out.fs]; exact r9.out));have m9 := bJ1 E9.out.disk ⟨#[109, 101, 116, 97, 46, 110, 101, 119]⟩ (by show 8 <= _; omega) (fun q hq => by have := K5.out.1 q hq; omega);rw [DkD.eta' d HH.out.fs] at m9;change Calls _ _ _ w3 (fun e w' => ∃ v, e = .returned (.tuple #[v, .int .i64 (d.read aA3).2]) ∧ Bs w' w3.heap.size v (d.read aA3).1 ∧ Below w3.heap.size w3 w') at m9;have m8 : ((d.read aA3).1.length : Int) <= aB7 d.fs := dE1;obtain ⟨rd, re, J7⟩ : ∃ rd re, d.read aA3 = (rd, re) := ⟨_, _, rfl⟩
 rw [J7] at m9 i2 m8;dsimp only at m9 i2 m8
 have G9 := qZ m9;have L1 := qZ m8;have b3 : w3.cell? ⟨w.heap.size, 0, none⟩ = some (.pointer (some ⟨gj, 0, none⟩)) := (d8.out.below n8.out f7).cell 0;have j3 : w3.cell? ⟨gj, 3, none⟩ = some (.pointer (some ⟨g, 0, none⟩)) := (C1.out.below n8.out (by omega)).cell 3;clear hp p9 D0 m9 m8 J7 E2 D9 b0 j4 C3;go_wp2_with fail
 refine G9.out.mono ?_;rintro e w4 ⟨v4, rfl, K3, y7⟩;obtain ⟨A4, c4, rfl, q1, q2, _⟩ := aD5 K3;have N8 := y7.size;have m4 := qZ (n8.out.trans (y7.mono (by omega)));have s9 := qZ (G6.out.below y7 (lR _));have D7 := m4.out.size;clear K3 y7 G9 n8 G6 E9 b3 j3;go_upto_if 43 with fail
 go_cut [8] from 42 to 48 (fun dv wx => ∃ (dv1 : Value) (vs : List Value), dv = dv1 ∧ w0.heap.size <= wx.heap.size ∧ vs.length <= 1 ∧ Hid (Below w0.heap.size w0 wx) ∧ Hid (Got wx w.heap.size (.slice A3 p.length c3) p) ∧ Hid (aP7 wx (fun _ => False) w.heap.size gj g dv1 vs (bC7 re)))
 case first =>
  by_cases h0 : re = 0
  ·subst h0
   have b4 : w4.cell? ⟨w.heap.size, 0, none⟩ = some (.pointer (some ⟨gj, 0, none⟩)) := (d8.out.below m4.out f7).cell 0;go_wp2_with fail
   refine (show Calls _ _ _ w4 _ from bQ3 (gj := gj) (g := g) aA3 (by decide) w4).mono ?_;rintro e w6 ⟨v6, rfl, y8, ⟨F6, a9, rfl⟩, q5, p5⟩;have J9 := y8.size;have g9 := (lS w6.heap.size w6).alloc (lR _) (.cells #[.func (.func F6) #[] a9] 98);have J3 := (p5 (EG (fun _ => False) w.heap.size w6) (fun x h1 h2 => .inr ⟨by omega, h2, q5 x h1 h2⟩));obtain ⟨e1, e2⟩ := EG.below (G := fun _ => False) (nE := w.heap.size) g9 ⟨fun _ h => h.elim, by omega⟩;have K7 := qZ ((J3.keep g9.size e1).mono e2);have M4 := g9.size;have m5 := qZ (m4.out.trans ((y8.alloc J9 (.cells #[.func (.func F6) #[] a9] 98)).mono (by omega)));have L3 := qZ (s9.out.below (y8.alloc J9 (.cells #[.func (.func F6) #[] a9] 98)) (lR _));have e9 := aG4 w6 98 [.func (.func F6) #[] a9];have t8 := qZ e9;clear y8 p5 q5 g9 J3 e1 e2 e9 b4 m4 s9;go_wp2_with (at_builtin; go_must (refine aB5 rfl (.tmp 44) (.tmp 47) 110 rfl w.heap.size 98 .nilFunc 8 Tryz.underlying110 aN2 rfl _ [] rfl (Own.nil _ _ _) (w6.heap.size + 1) (some ⟨w6.heap.size, 0, none⟩) 1 1 [.func (.func F6) #[] a9] rfl rfl t8.out (by simp [Value.oneCell']) (by unfold maxLen; simp) (by simp) (by omega) ?_; intro v8 w8 j9 I9 L7; have L0 := qZ j9; have C0 := qZ I9; clear j9 I9 L7))
   go_meet;have i1 : Below (w6.alloc (.cells #[.func (.func F6) #[] a9] 98)).heap.size (w6.alloc (.cells #[.func (.func F6) #[] a9] 98)) w8 := (lS _ _).grown C0.out (lR _) (fun k hk => by cases hk);refine ⟨_, [.func (.func F6) #[] a9], rfl, by have := C0.out.size; omega, by simp, qZ (m5.out.trans (i1.mono (by omega))), qZ (L3.out.below i1 (lR _)), qZ ?_⟩;exact aP7.push (al := []) aP7.nil ⟨fun _ h => h.elim, by omega⟩ K7.out rfl C0.out L0.out
  have N4 : (re == 0) = false := by simpa using h0
  have J4 : bC7 re = [] := by unfold bC7; rw [if_neg h0]
  have K8 := qZ J4;clear h0 J4;go_wp2_with fail
  go_meet;exact ⟨_, [], rfl, D7, by simp, m4, s9, qZ (by rw [K8.out]; exact aP7.nil)⟩
 obtain ⟨N2, M9, j8, M1, M8, n9, G7, E5⟩ := hcut;have m2 := j8.symm;clear j8;subst m2;clear m4 s9;have B2 := qZ (m3.out.trans (n9.out.mono D6));have G0 := qZ (HH.out.below B2.out);have y9 := bH2 G0.out.disk (by rw [HH.out.fs]; have := r9.out.sz; omega);rw [HH.out.fs] at y9;have D5 := HH.out.disk.num;have M7 := r9.out.sz;have M0 := aE5 d.fs;have m8 := L1.out;have I8 : DkD.free d = d.room - aB7 d.fs := rfl;rw [I8] at i2;obtain ⟨fr, p7⟩ : ∃ x, x = d.room - aB7 d.fs := ⟨_, rfl⟩
 rw [<- p7] at y9 i2;have N5 : -4611686018427387904 <= fr ∧ fr + rd.length <= 9223372036854775807 := by omega
 have m6 := qZ y9;have b7 : wc.cell? ⟨w.heap.size, 0, none⟩ = some (.pointer (some ⟨gj, 0, none⟩)) := (d8.out.below n9.out f7).cell 0;have j7 : wc.cell? ⟨gj, 3, none⟩ = some (.pointer (some ⟨g, 0, none⟩)) := (C1.out.below n9.out (by omega)).cell 3;clear y9 D5 M7 M0 m8 I8 p7;have O4 : IntKind.i64.wrap (fr + rd.length) = fr + rd.length := mH _ (by omega);go_wp2_with fail
 refine m6.out.mono ?_;rintro e w8 ⟨rfl, i1⟩;have N9 := i1.size;have B6 := qZ (n9.out.trans (i1.mono (by omega)));have C4 := qZ (G7.out.below i1 (lR _));have B8 := qZ (E5.out.below i1 ⟨fun _ h => h.elim, by omega⟩);have B4 := qZ (B2.out.trans (i1.mono (by omega)));clear i1 m6 n9 G7 E5 B2 b7 j7 G0;by_cases hroom : fr + rd.length < (p.length : Int)
 ·have HR := qZ (i2.out.trans (if_pos hroom))
  go_wp2_with fail
  go_ret
  exact HH.out.same B4.out HR.out
 have HR := qZ (i2.out.trans (if_neg hroom));clear i2;go_upto_region 12 with fail
 go_cut [8] from 60 to 68 (fun dv wx => ∃ (dv1 : Value) (vs : List Value), dv = dv1 ∧ w0.heap.size <= wx.heap.size ∧ Hid (Below w0.heap.size w0 wx) ∧ Hid (aP7 wx (fun _ => False) w.heap.size gj g dv1 vs (aQ6 re p)))
 case first =>
  have l6 := qZ (B6.out.drew);have L2 := qZ (C4.out.below (lS _ w8).drew (lR _));have g6 := qZ (B8.out.below (lS _ w8).drew ⟨fun _ h => h.elim, by omega⟩);have O2 : w0.heap.size <= w8.drew.heap.size := by show _ <= w8.heap.size; omega
  have K9 := qZ (show ∀ k, w.heap.size <= k -> k < w0.heap.size -> ∀ cs fz, w0.heap[k]? ≠ some (.cells cs 98 fz) from fun k h1 h2 cs fz e => by
   have h3 : w0.heap.size = w.heap.size + 1 := by rw [I0.out]; simp
   obtain rfl : k = w.heap.size := by omega
   have h4 := e.symm.trans d8.out;injection h4 with h4
   injection h4 with _ h4 _
   exact absurd h4 (by decide))
  have b9 : w8.drew.cell? ⟨w.heap.size, 0, none⟩ = some (.pointer (some ⟨gj, 0, none⟩)) := (d8.out.below l6.out f7).cell 0;clear B6 C4 B8 B4;refine wp_region_held_drew (S := fun W => W.cell? ⟨w.heap.size, 0, none⟩ = some (.pointer (some ⟨gj, 0, none⟩)) ∧ True ∧ True ∧ True) (by kernel_rfl) ⟨b9, trivial, trivial, trivial⟩ (fun hHeld => ?_);refine zT 0 (k := ?_);refine zT 1 (k := ?_);refine zT 2 (k := ?_);refine zT 4 (k := ?_);refine zT 6 (k := ?_);simp only [zA, zB, zF, zG, zC, zD, zE];refine zV 3 (k := fun K hK => ?_);simp only [zA, zB];go_simp;refine (show Calls _ _ _ w8.drew _ from cE5 (gj := gj) (g := g) aA3 (by decide) p A3 c3 p1 (by omega) w8.drew).mono ?_;rintro e wa ⟨vP, rfl, p6, ⟨FP, a7, rfl⟩, q6, i4⟩;have M6 := p6.size;have B7 := qZ (l6.out.trans (p6.mono (by omega)));have t7 := qZ (L2.out.below p6 (lR _));have E6 := qZ (g6.out.below p6 ⟨fun _ h => h.elim, by omega⟩);change _ <= _ at M6;have J0 := i4 (EG (fun _ => False) w.heap.size wa) (fun x h1 h2 => .inr ⟨by omega, h2, q6 x h1 h2⟩) (t7.out.rdG (lR _));have G2 := qZ J0;have ba : wa.cell? ⟨w.heap.size, 0, none⟩ = some (.pointer (some ⟨gj, 0, none⟩)) := (d8.out.below B7.out f7).cell 0;clear i4 q6 J0 p6;go_wp2_with fail
  refine hK.out _ _ ⟨ba, trivial, trivial, trivial⟩ (fun hHeld => ?_);clear hK K;try simp only [zF, zG, zC, zD, zE]
  refine zV 5 (k := fun K hK => ?_);simp only [zA, zB];go_simp;refine (show Calls _ _ _ wa _ from bH9 (gj := gj) (g := g) aA3 (by decide) wa).mono ?_;rintro e wb ⟨vS, rfl, m0, ⟨FS, a8, rfl⟩, q7, i6⟩;have O1 := m0.size;have q8 := qZ (B7.out.trans (m0.mono (by omega)));have G8 := qZ (t7.out.below m0 (lR _));clear t7;have t7 := G8;clear G8;have E7 := qZ (E6.out.below m0 ⟨fun _ h => h.elim, by omega⟩);obtain ⟨e1, e2⟩ := EG.below (G := fun _ => False) (nE := w.heap.size) m0 ⟨fun _ h => h.elim, by omega⟩;have G3 := qZ ((G2.out.keep m0.size e1).mono e2);have J1 := i6 (EG (fun _ => False) w.heap.size wb) (fun x h1 h2 => .inr ⟨by omega, h2, q7 x h1 h2⟩);have G4 := qZ J1;have bb : wb.cell? ⟨w.heap.size, 0, none⟩ = some (.pointer (some ⟨gj, 0, none⟩)) := (d8.out.below q8.out f7).cell 0;clear i6 q7 J1 m0 e1 e2 G2 ba E6 B7;go_wp2_with fail
  refine hK.out _ _ ⟨bb, trivial, trivial, trivial⟩ (fun hHeld => ?_);clear hK K;try simp only [zF, zG, zC, zD, zE]
  refine zV 7 (k := fun K hK => ?_);simp only [zA, zB];go_simp;have e9 := aG4 wb 98 [Value.func (.func FP) #[] a7, .func (.func FS) #[] a8, .func (.func 70) #[] #[.pointer (some ⟨w.heap.size, 0, none⟩)]];have j6 : Below wb.heap.size wb (wb.alloc (.cells #[.func (.func FP) #[] a7, .func (.func FS) #[] a8, .func (.func 70) #[] #[.pointer (some ⟨w.heap.size, 0, none⟩)]] 98)) := (lS _ wb).alloc (lR _) _;have M4 := j6.size;have o7 := qZ (E7.out.below j6 ⟨fun _ h => h.elim, by omega⟩);have m5 := qZ (q8.out.trans (j6.mono (by omega)));have J2 : aK3 wb (EG (fun _ => False) w.heap.size wb) gj g (.func (.func 70) #[] #[.pointer (some ⟨w.heap.size, 0, none⟩)]) .ren := ⟨w.heap.size, rfl, EG.fresh (d8.out.below q8.out f7) (lR _) (by decide), bb⟩;obtain ⟨e1, e2⟩ := EG.below (G := fun _ => False) (nE := w.heap.size) j6 ⟨fun _ h => h.elim, by omega⟩
  have g8 : ∀ i (h : i < [Value.func (.func FP) #[] a7, .func (.func FS) #[] a8, .func (.func 70) #[] #[.pointer (some ⟨w.heap.size, 0, none⟩)]].length) (h' : i < [aC3.app aA3 p, .sync aA3, .ren].length), aK3 (wb.alloc (.cells #[.func (.func FP) #[] a7, .func (.func FS) #[] a8, .func (.func 70) #[] #[.pointer (some ⟨w.heap.size, 0, none⟩)]] 98)) (EG (fun _ => False) w.heap.size (wb.alloc (.cells #[.func (.func FP) #[] a7, .func (.func FS) #[] a8, .func (.func 70) #[] #[.pointer (some ⟨w.heap.size, 0, none⟩)]] 98))) gj g [Value.func (.func FP) #[] a7, .func (.func FS) #[] a8, .func (.func 70) #[] #[.pointer (some ⟨w.heap.size, 0, none⟩)]][i] [aC3.app aA3 p, .sync aA3, .ren][i] := fun i h h' => by
   have hi : i < 3 := h;rcases (by omega : i = 0 ∨ i = 1 ∨ i = 2) with rfl | rfl | rfl
   ·exact (G3.out.keep j6.size e1).mono e2
   ·exact (G4.out.keep j6.size e1).mono e2
   exact (J2.keep j6.size e1).mono e2
  have n7 := qZ g8;have t8 := qZ e9;have bA : (wb.alloc (.cells #[.func (.func FP) #[] a7, .func (.func FS) #[] a8, .func (.func 70) #[] #[.pointer (some ⟨w.heap.size, 0, none⟩)]] 98)).cell? ⟨w.heap.size, 0, none⟩ = some (.pointer (some ⟨gj, 0, none⟩)) := (d8.out.below m5.out f7).cell 0;have K4 : w.heap.size <= (wb.alloc (.cells #[.func (.func FP) #[] a7, .func (.func FS) #[] a8, .func (.func 70) #[] #[.pointer (some ⟨w.heap.size, 0, none⟩)]] 98)).heap.size := by omega
  clear e9 j6 J2 e1 e2 g8 G3 G4 E7 q8 bb;refine hK.out _ _ ⟨bA, trivial, trivial, trivial⟩ (fun hHeld => ?_);clear hK K;try simp only [zF, zG, zC, zD, zE]
  refine zV 8 (k := fun K hK => ?_);simp only [zA, zB];rw [if_pos (by rfl)];refine aM2 (.tmp 60) (.tmp 67) 110 rfl w.heap.size 98 .nilFunc 8 Tryz.underlying110 aN2 rfl _ M9 rfl o7.out.own (wb.heap.size + 1) (some ⟨wb.heap.size, 0, none⟩) 3 3 [Value.func (.func FP) #[] a7, .func (.func FS) #[] a8, .func (.func 70) #[] #[.pointer (some ⟨w.heap.size, 0, none⟩)]] rfl rfl t8.out (by simp [Value.oneCell']) (by unfold maxLen; omega) (by omega) K4 ?_;intro vq wq l4 z9 L8;have O3 := z9.size;have L4 := qZ (aP7.pushes (bl := [.app aA3 p, .sync aA3, .ren]) o7.out ⟨fun _ h => h.elim, K4⟩ rfl n7.out (by simp [Value.oneCell']) z9 l4);have I7 : Below w0.heap.size (wb.alloc (.cells #[.func (.func FP) #[] a7, .func (.func FS) #[] a8, .func (.func 70) #[] #[.pointer (some ⟨w.heap.size, 0, none⟩)]] 98)) wq := (lS _ _).grown z9 (by omega) (fun k hk => by have h1 := o7.out.own.lt k hk; obtain ⟨cs, hc⟩ := aD1 o7.out.own hk; rcases Nat.lt_or_ge k w0.heap.size with h2 | h2; exact absurd (m5.out.block k h2 ▸ hc) (K9.out k h1.1 h2 cs _); exact h2);have E3 := qZ (m5.out.trans I7);have bq : wq.cell? ⟨w.heap.size, 0, none⟩ = some (.pointer (some ⟨gj, 0, none⟩)) := (d8.out.below E3.out f7).cell 0;clear l4 z9 L8 I7 bA o7 n7 t8 m5;refine hK.out _ _ ⟨bq, trivial, trivial, trivial⟩ (fun hHeld => ?_);clear hK K;try simp only [zF, zG, zC, zD, zE]
  refine zT 9 (k := ?_);simp only [zA, zB, zF, zG, zC, zD, zE];refine wpAnyH_done (by kernel_rfl) ?_ _;clear bq hHeld;go_wp2_with fail
  go_meet;exact ⟨_, _, rfl, by omega, E3, L4⟩
 obtain ⟨N3, N0, j8, O0, l6, g6⟩ := hcut;have m2 := j8.symm;clear j8;subst m2;clear B6 C4 B8 B4;obtain ⟨al, x8⟩ : ∃ a, a = aQ6 re p := ⟨_, rfl⟩
 have g8 : al.length <= 4 := by rw [x8]; unfold aQ6 bC7; split <;> simp
 have L6 : aF4 al <= 1048601 := by rw [x8]; unfold aQ6 bC7; split <;> simp [aF4, aC3.cost] <;> omega
 rw [<- x8] at g6 HR;obtain ⟨Ad, cd, j8, _, _, _⟩ := g6.out.own.shape;rw [g6.out.len] at j8;subst j8;have B5 := qZ (m3.out.trans (l6.out.mono D6));have K6 := qZ (HH.out.below B5.out);have n6 := qZ (aR7 (E := fun k => w.heap.size <= k ∧ k < wc.heap.size) K6.out.disk (C1.out.below l6.out (by omega)) HH.out.lo Ad N0 al cd (RdF.of_own g6.out.own (fun k h1 h2 => ⟨h1, h2⟩)) g6.out.len (fun k h h' => (g6.out.acts k h h').mono (fun x hx => by
  rcases hx with hx | hx
  ·exact hx.elim
  exact ⟨hx.1, hx.2.1⟩)) (fun k hk => ⟨hk.2, fun hf => by have := (HH.out.disk.lt k hf).2; omega, by omega⟩) (fun w' hb' => HE.out w' ((B5.out.mono D3).trans hb')) (L := L) (by rw [DkD.eta' d HH.out.fs]; exact r9.out) (by omega) (by omega))
 rw [DkD.eta' d HH.out.fs] at n6;obtain ⟨rc, d3, hR⟩ : ∃ rc d3, aG1 al d = (rc, d3) := ⟨_, _, rfl⟩
 rw [hR] at n6 HR;dsimp only at n6 HR
 have b9 : wc.cell? ⟨w.heap.size, 0, none⟩ = some (.pointer (some ⟨gj, 0, none⟩)) := (d8.out.below l6.out f7).cell 0;clear hR x8 L6 g8;go_wp2_with fail
 refine n6.out.mono ?_;rintro e w9 ⟨rfl, x4, p0, p4, b8, g7, p8⟩;have M3 := g7.size;have l9 : Blk w9 w.heap.size 30 #[.pointer (some ⟨gj, 0, none⟩)] := g7.blk_ (d8.out.below l6.out f7) (by
  rintro (h1 | h1)
  ·have := (HH.out.disk.lt _ h1).2; omega
  omega)
 have C7 : Fr (fun k => aA8 g m es k ∨ k = gj) w w9 := (Fr.of_below _ B5.out).trans g7 (fun j hj => .inl hj);have I2 : w9.cell? ⟨w.heap.size, 0, none⟩ = some (.pointer (some ⟨gj, 0, none⟩)) := l9.cell 0;have j0 : w9.cell? ⟨gj, 0, none⟩ = some (.int .i64 j.term) := b8.cell 0;have j1 : w9.cell? ⟨gj, 1, none⟩ = some (.int .i64 j.vote) := b8.cell 1;have j4 : w9.cell? ⟨gj, 4, none⟩ = some (.int .i64 rc) := b8.cell 4;have z0 : w9.frozen? ⟨gj, 0, none⟩ = false := b8.frozen _;have z1 : w9.frozen? ⟨gj, 1, none⟩ = false := b8.frozen _;have C6 := qZ l9;have m6 := qZ C7;have f9 := qZ p0;have o9 := qZ p4;have l8 := qZ b8;have l7 := qZ (show ∀ k, aA8 g m x4 k -> aA8 g m es k ∨ w.heap.size <= k from fun k hk => (p8 k hk).imp id (fun h1 => by omega));have f8 := qZ (show ∀ k, F k -> w9.heap[k]? = w.heap[k]? ∧ k < w.heap.size ∧ k ≠ gj ∧ ¬ aA8 g m x4 k from fun k hk => by
  have h1 := HH.out.apart k hk;refine ⟨C7.block k h1.2.1 (by rintro (h2 | h2); exact h1.2.2.2 h2; exact h1.2.2.1 h2), h1.2.1, h1.2.2.1, fun hf => ?_⟩;rcases l7.out k hf with h2 | h2
  ·exact h1.2.2.2 h2
  omega)
 clear p0 p4 b8 g7 p8 l9 C7 n6 g6 b9;by_cases hz : rc = 0
 rotate_left
 ·have L5 : (rc == 0) = false := by simpa using hz
  have C5 := qZ (HR.out.trans (by rw [if_neg hz] : _ = (rc, ({ j with bad := rc } : JnP), d3)));have G5 := qZ HH.out.jn.num;clear HR hz;go_wp2_with fail
  go_ret
  exact HH.out.acted (es2 := x4) (F' := F) m6.out f9.out o9.out l7.out (i3.out w9 j.term j.vote rc m6.out.size (fun k hk => (f8.out k hk).1) l8.out G5.out.1 G5.out.2) (fun k hk => ⟨.inl hk, by have := f8.out k hk; omega, (f8.out k hk).2.2.1, (f8.out k hk).2.2.2⟩) D3 C5.out
 subst hz;have C5 := qZ (HR.out.trans (by rw [if_pos rfl] : _ = ((0 : Int), (⟨t, v, j.segs, 0⟩ : JnP), d3)));clear HR;go_upto_region 14 with fail
 refine wp_region_held_drew (S := fun W => W.cell? ⟨w.heap.size, 0, none⟩ = some (.pointer (some ⟨gj, 0, none⟩)) ∧ True ∧ True ∧ True) (by kernel_rfl) ⟨I2, trivial, trivial, trivial⟩ (fun hHeld => ?_);refine zT 0 (k := ?_);refine zT 1 (k := ?_);refine zT 2 (k := ?_);refine zT 3 (k := ?_);refine zT 4 (k := ?_);refine zT 5 (k := ?_);refine zT 6 (k := ?_);simp only [zA, zB, zF, zG, zC, zD, zE];refine zV 7 (k := fun K hK => ?_);simp only [zA, zB];go_simp;have z7 := aA0 w9 gj 0 (.int .i64 t);have I3 := l8.out.set_ 0 (.int .i64 t);have I5 := C6.out.grown z7 (by intro e; injection e with e; omega);have B9 := qZ z7;have o8 := qZ I3;have t9 := qZ I5;have M2 := z7.size;clear z7 I3 I5 I2 j0 j1 j4 z0 z1;generalize hw1 : (w9.setCell ⟨gj, 0, none⟩ (.int .i64 t)) = wa at B9 o8 t9 M2 ⊢
 clear hw1;have ba : wa.drew.cell? ⟨w.heap.size, 0, none⟩ = some (.pointer (some ⟨gj, 0, none⟩)) := t9.out.cell 0;have ja : wa.drew.cell? ⟨gj, 1, none⟩ = some (.int .i64 j.vote) := o8.out.cell 1;have za : wa.drew.frozen? ⟨gj, 1, none⟩ = false := o8.out.frozen _;refine hK.out _ _ ⟨ba, trivial, trivial, trivial⟩ (fun hHeld => ?_);clear hK K;try simp only [zF, zG, zC, zD, zE]
 refine zT 8 (k := ?_);refine zT 9 (k := ?_);refine zT 10 (k := ?_);simp only [zA, zB, zF, zG, zC, zD, zE];refine zV 11 (k := fun K hK => ?_);simp only [zA, zB];go_simp;have z8 := aA0 wa gj 1 (.int .i64 v);have I4 := o8.out.set_ 1 (.int .i64 v);have I6 := t9.out.grown z8 (by intro e; injection e with e; omega);have E8 := qZ (aB8 B9.out z8 (.inl rfl));have C2 := qZ I4;have I1 := qZ I6;have J8 := z8.size;clear z8 I4 I6 ba ja za B9 o8 t9;generalize hw2 : (wa.setCell ⟨gj, 1, none⟩ (.int .i64 v)) = wb at E8 C2 I1 J8 ⊢
 clear hw2;have bb : wb.drew.cell? ⟨w.heap.size, 0, none⟩ = some (.pointer (some ⟨gj, 0, none⟩)) := I1.out.cell 0;have O5 : wb.drew.cell? ⟨gj, 4, none⟩ = some (.int .i64 0) := C2.out.cell 4;refine hK.out _ _ ⟨bb, trivial, trivial, trivial⟩ (fun hHeld => ?_);clear hK K;try simp only [zF, zG, zC, zD, zE]
 refine wpAnyH_done (by kernel_rfl) ?_ _;clear hHeld;go_wp2_with fail
 go_ret
 have m7 : w9.grownBy wb.drew (some gj) := aB8 E8.out (aA5 (lS _ wb).drew (some gj)) (.inl rfl);refine HH.out.acted (es2 := x4) (F' := F) (m6.out.trans (Fr.of_grown (mine := fun k => k = gj) m7 (fun k e => by injection e with e; exact e.symm)) (fun k hk => .inl (.inr hk))) (f9.out.keep m7.size (fun k hk => m7.block k (f9.out.lt k hk).2 (fun e => by injection e with e; subst e; exact f9.out.not_foot l8.out (by decide) (by decide) (by decide) hk))) o9.out l7.out (i3.out wb.drew t v 0 (by have := m7.size; omega) (fun k hk => (m7.block k (by have := f8.out k hk; omega) (fun e => by injection e with e; exact (f8.out k hk).2.2.1 e)).trans (f8.out k hk).1) C2.out HT.out HV.out) (fun k hk => ⟨.inl hk, by have := f8.out k hk; have := m7.size; omega, (f8.out k hk).2.2.1, (f8.out k hk).2.2.2⟩) D3 C5.out
end
section
open Oct
theorem cA6 : ∀ (l l' : List (Nm × FD)), l'.length = l.length -> (∀ i (h : i < l'.length) (h' : i < l.length), l'[i].2.b.length <= l[i].2.b.length) -> aB7 l' <= aB7 l
 | [], [], _, _ => Int.le_refl _
 | [], _ :: _, h, _ => by cases h
 | _ :: _, [], h, _ => by cases h
 | x :: r, y :: s, h, hi => by
  have h1 := cA6 r s (by simpa using h) fun i h2 h3 => hi (i + 1) (by simpa using h2) (by simpa using h3)
  have h2 := hi 0 (by simp) (by simp);simp only [List.getElem_cons_zero] at h2;unfold aB7;omega
theorem JDk.boot {L : Nat} {d : DkD} (h : JDk L d) (keep : List Int) : JDk L (d.boot keep) := by
 obtain ⟨pw, room, fs⟩ := d;have he : aJ5 keep fs.length fs = fs.mapIdx fun i q => (q.1, aL9 keep i q.2) := aR2 keep fs
 refine ⟨Int.le_trans (cA6 fs (aJ5 keep fs.length fs) (aN6 _ _ _) fun i h1 h2 => ?_) h.sz, ?_, fun q hq => ?_⟩
 ·simp only [he, List.getElem_mapIdx]
  unfold aL9;rw [lV];omega
 ·show (aJ5 keep fs.length fs).length <= L
  rw [aN6];exact h.len
 obtain ⟨f, hf⟩ := bI5 keep hq;have h1 : (q.1, f).1.length <= 1000 := h.nm (q.1, f) hf;exact h1
def cQ5 (o n m : Int) (l : List aF9) (j : JnP) (r : Int × JnP × DkD) (k : JnP) : Prop :=
 (r.1 ≠ 50 ∧ k = r.2.1) ∨ (r.1 = 50 ∧ ((o = 1 ∧ k.segs = j.segs ∧ ((k.term = j.term ∧ k.vote = j.vote) ∨ (k.term = n ∧ k.vote = m))) ∨
  (o = 0 ∧ ∃ e0 rr, l = e0 :: rr ∧ 0 < e0.ix ∧ aZ5 j l e0.ix k) ∨
  (o = 2 ∧ (k.term = j.term ∧ k.vote = j.vote) ∧ j.base.1 <= n ∧ ((∃ q : Nat, q <= j.ents.length ∧ (q : Int) = k.base.1 - j.base.1 ∧ k.ents = j.ents.drop q) ∨ (k.ents = [] ∧ k.base = (n, m))))))
def bN8 (o n m : Int) (l : List aF9) (j : JnP) (r : Int × JnP × DkD) : Prop := ∀ keep, ∃ k d', aL5 (r.2.2.boot keep) = (0, some k, d') ∧ cQ5 o n m l j r k
section
variable {pw : PWD} {room : Int} {fs : List (Nm × FD)} {j : JnP} {n m : Int} {l : List aF9}
theorem aR0.lastO {o : Int} {r : Int × JnP × DkD} {P : JnP -> Prop} (h : aR0 pw room r P) (hP : ∀ k, P k -> r.1 = 50 -> cQ5 o n m l j r k) : bN8 o n m l j r := fun keep => by
 rcases h with ⟨h1, pw', fs', h2, h3, h4, h5⟩ | ⟨h1, h2, pw', fs', h3, h4⟩
 ·obtain ⟨d', hd⟩ := h5.boot (pw := pw') (room := room) keep
  rw [h2];exact ⟨_, d', hd, .inl ⟨h1, rfl⟩⟩
 obtain ⟨k, d', hd, hk⟩ := h4 keep;rw [h3];exact ⟨k, d', hd, hP k hk h2⟩
theorem cO0 {o : Int} (h : Good j fs) : bN8 o n m l j (0, j, ⟨pw, room, fs⟩) := fun keep => by
 obtain ⟨d', hd⟩ := h.boot (pw := pw) (room := room) keep;exact ⟨_, d', hd, .inl ⟨by show (0 : Int) ≠ 50; decide, rfl⟩⟩
theorem cN9 (h : Good j fs) (hp : pw.off = false) (hn : -9223372036854775808 <= n ∧ n <= 9223372036854775807) (hm : -9223372036854775808 <= m ∧ m <= 9223372036854775807) : bN8 1 n m l j (aE2 j ⟨pw, room, fs⟩ n m) :=
 (bB3 h hp hn hm).lastO fun k hk hr => .inr ⟨hr, .inl ⟨rfl, hk⟩⟩
theorem cO1 (h : Good j fs) (hp : pw.off = false) (hnum : ∀ e ∈ l, e.ix <= 9223372036854775807 ∧ e.tm <= 9223372036854775807 ∧ e.kd <= 9223372036854775807) : bN8 0 n m l j (aI9 j ⟨pw, room, fs⟩ l) :=
 (bR4 h hp hnum).lastO fun k hk hr => .inr ⟨hr, .inr (.inl ⟨rfl, hk⟩)⟩
theorem cS3 {k : JnP} (h : aE9 j.segs) {q : Nat} (hq : q < j.segs.length ∨ q = 0) (hk : k.segs = j.segs.drop q) : ∃ p : Nat, p <= j.ents.length ∧ (p : Int) = k.base.1 - j.base.1 ∧ k.ents = j.ents.drop p := by
 have hs : j.segs = j.segs.take q ++ k.segs := by rw [hk, List.take_append_drop]
 have he : j.ents = aL4 (j.segs.take q) ++ k.ents := by
  rw [aV1, aV1, <- aE8, <- hs]
 refine ⟨(aL4 (j.segs.take q)).length, by rw [he, lT]; omega, ?_, by rw [he, List.drop_left]⟩;by_cases h0 : q < j.segs.length
 rotate_left
 ·obtain rfl : q = 0 := by omega
  rw [List.drop_zero] at hk;have hb : k.base = j.base := by unfold JnP.base; rw [hk]
  rw [hb];simp [aL4]
 obtain ⟨s, r, a8⟩ : ∃ s r, k.segs = s :: r := by
  cases hx : k.segs with
  | nil => rw [hx] at hk; have := congrArg List.length hk; rw [lZ] at this; simp at this; omega
  | cons s r => exact ⟨s, r, rfl⟩
 obtain ⟨b, hb⟩ : ∃ b, j.segs.head? = some b := by
  cases hx : j.segs with
  | nil => rw [hx] at h0; exact absurd h0 (by simp)
  | cons b r => exact ⟨b, rfl⟩
 have a7 : j.segs = (j.segs.take q ++ [s]) ++ r := by rw [List.append_assoc, List.singleton_append, <- a8]; exact hs
 have hc : aE9 (j.segs.take q ++ [s]) := by rw [a7] at h; exact h.left
 have a9 : (j.segs.take q ++ [s]).head? = some b := by
  rw [a7, List.head?_append] at hb;cases hx : (j.segs.take q ++ [s]).head? with
  | none => rw [List.head?_eq_none_iff] at hx; simp at hx
  | some y => rw [hx] at hb; simpa using hb
 have h1 := bW5 hc a9;have h2 : k.base = (s.first - 1, s.term) := bS2 (by rw [a8]; rfl);rw [h2, bS2 hb];show ((aL4 (j.segs.take q)).length : Int) = s.first - 1 - (b.first - 1)
 unfold aL4;omega
theorem cN8 (h : Good j fs) (hp : pw.off = false) (hm : m <= 9223372036854775807) : bN8 2 n m l j (aF8 j ⟨pw, room, fs⟩ n m) :=
 (aZ8 h hp hm).lastO fun k hk hr => by
  refine .inr ⟨hr, .inr (.inr ⟨rfl, hk.1, ?_, ?_⟩)⟩
  ·rw [aK6, if_neg (by rw [h.bad]; simp)] at hr
   split at hr
   ·exact absurd hr (show (1 : Int) ≠ 50 by decide)
   rename_i hb
   unfold cZ9 at hb;omega
  rcases hk.2 with ⟨q, hq, hs⟩ | h2
  ·exact .inl (cS3 h.ch hq hs)
  exact .inr h2
end
end
section
open Oct
theorem aZ5.kept {j k : JnP} {l : List aF9} {ix : Int} (h : aZ5 j l ix k) : dI1 k.ents j.ents (ix - 1 - j.base.1) l := by
 rcases h.2.2 with ⟨n, h1, h2, h3⟩ | ⟨q, m, h1, h2, h3, h4⟩
 ·refine ⟨n, h1, h2, ?_, ?_, .inl ?_⟩
  ·rw [h3, lV]; omega
  ·rw [h3, List.take_take, Nat.min_self]
  rw [h3, lV]; omega
 have hl : k.ents.length = q + m := by rw [h4, lT, lV, lV]; omega
 refine ⟨q, by omega, h2, by omega, ?_, .inr ⟨h1, by omega, ?_⟩⟩
 ·rw [h4, List.take_append_of_le_length (by rw [lV]; omega), List.take_take, Nat.min_self]
 rw [h4, List.drop_append_of_le_length (by rw [lV]; omega), List.drop_eq_nil_of_le (by rw [lV]; omega), List.nil_append, <- h4, hl, Nat.add_sub_cancel_left]
end
section
open Go.RowKit Go.Maps Oct
structure aP8 (W0 w : World) (base g m gj : Nat) (F : Nat -> Prop) (k : Nat) (d : DkD) (j : JnP) (es : List (Nm × FE)) : Prop where
 jn : JnK w base g m gj F d j es
 ri : RI j d
 rb : RB k j d
 low : W0.heap.size <= base
 bw : base <= w.heap.size
 from_ : Below W0.heap.size W0 w
 facts : bG1 W0
theorem JAt.segB {w : World} {F : Nat -> Prop} {gj g : Nat} {j : JnP} (h : JAt w F gj g j) : ∀ s ∈ j.segs, bG2 s := fun s hs => by
 obtain ⟨⟨A, c, ads, h1, h2, h3, h4, h5⟩, _⟩ := h;obtain ⟨i, hi, rfl⟩ := List.getElem_of_mem hs;exact (h5 i (by omega) hi).rd.num
section
variable {W0 w w' : World} {base g m gj k : Nat} {F : Nat -> Prop} {d : DkD} {j : JnP} {es : List (Nm × FE)}
theorem aP8.fac (h : aP8 W0 w base g m gj F k d j es) : ∀ w', Below base w w' -> bG1 w' := fun w' hb => h.facts.below (h.from_.trans (hb.mono h.low))
theorem aP8.below (h : aP8 W0 w base g m gj F k d j es) (hb : Below w.heap.size w w') : aP8 W0 w' base g m gj F k d j es :=
 ⟨h.jn.below hb, h.ri, h.rb, h.low, Nat.le_trans h.bw hb.size, h.from_.trans (hb.mono (Nat.le_trans h.low h.bw)), h.facts⟩
def bI2 (W0 w : World) (base g m gj k : Nat) (es : List (Nm × FE)) (r : Int × JnP × DkD) (e : Ending) (w' : World) : Prop :=
 e = .returned (.int .i64 r.1) ∧ (∃ es' F', aP8 W0 w' base g m gj F' k r.2.2 r.2.1 es') ∧ Fr (fun x => aA8 g m es x ∨ x = gj) w w'
theorem aP8.to (h : aP8 W0 w base g m gj F k d j es) {r : Int × JnP × DkD} {e : Ending} (ht : cC5 w base g m gj es F r e w') (a9 : RI r.2.1 r.2.2) (a8 : RB (k + 1) r.2.1 r.2.2) : bI2 W0 w base g m gj (k + 1) es r e w' := by
 obtain ⟨he, es', F', hj, a7, _, _⟩ := ht;have hb : Below base w w' := a7.below h.bw (fun x hx => by
  rcases hx with hx | hx
  ·exact (h.jn.disk.lt x hx).1
  rw [hx]; exact h.jn.lo)
 exact ⟨he, ⟨es', F', hj, a9, a8, h.low, Nat.le_trans h.bw a7.size, h.from_.trans (hb.mono h.low), h.facts⟩, a7⟩
theorem aP8.jdk (h : aP8 W0 w base g m gj F k d j es) (hk : k <= 90) : JDk 100000000000 d := h.rb.dk.mono (by have := dH7 hk; omega)
theorem bA1 : ∀ (rs : List aD8), rs.length <= (rs.map fun q => q.e.b.length + 5).sum
 | [] => Nat.zero_le _
 | q :: r => by
  have := bA1 r;rw [mG, List.sum_cons, mC];omega
theorem bM2 (h : aP8 W0 w base g m gj F k d j es) (hk : k <= 80) {E : Nat -> Prop} (Ae : Option Addr) (rs : List aD8) (ce : Nat) (d8 : RdF w E Ae (aA7 rs)) (a9 : ∀ q ∈ rs, bB7 w E q.v q.e.b) (a8 : ∀ k, E k -> k < w.heap.size) (f7 : (rs.map fun q => q.e.b.length + 5).sum <= 1048576)
  (a7 : ∀ q ∈ rs, (-9223372036854775808 <= q.e.ix ∧ q.e.ix <= 9223372036854775807) ∧ (-9223372036854775808 <= q.e.tm ∧ q.e.tm <= 9223372036854775807) ∧ (-9223372036854775808 <= q.e.kd ∧ q.e.kd <= 9223372036854775807)) :
  Calls Tryz.prog 15 #[.pointer (some ⟨gj, 0, none⟩), .slice Ae rs.length ce] w fun e w' => bI2 W0 w base g m gj (k + 1) es (aI9 j d (rs.map aD8.e)) e w' := by
 have hp := h.ri.pre h.rb (by omega : k <= 90);have e9 := bA1 rs;have b8 : ((rs.map aD8.e).map aC9).flatten.length <= 12600000 := by
  have h1 := bD0 (rs.map aD8.e) (fun e he => by
   obtain ⟨q, hq, rfl⟩ := List.mem_map.1 he;exact ⟨(a7 q hq).2.1, (a7 q hq).2.2⟩)
  have h2 : (((rs.map aD8.e).map fun e => e.b.length + 5).sum) = (rs.map fun q => q.e.b.length + 5).sum := by rw [List.map_map]; rfl
  rw [h2] at h1;omega
 refine (bY9 h.jn h.bw (h.jdk (by omega)) (by omega) (fun w' hb => (h.fac w' hb).tab) hp.seg hp.ks hp.long hp.ends hp.sum Ae rs ce d8 a9 a8 (by omega) (by omega) a7).mono fun e w' ht => ?_
 refine h.to ht ?_ (h.rb.save _ h.jn.jn.segB (fun e he => ?_) (by rw [lU]; omega) b8)
 ·obtain ⟨pw, room, fs⟩ := d
  exact (cY5 h.ri _).1
 obtain ⟨q, hq, rfl⟩ := List.mem_map.1 he;exact (a7 q hq).1.2
theorem bF8 (h : aP8 W0 w base g m gj F k d j es) (hk : k <= 80) (t v : Int) (ht : -9223372036854775808 <= t ∧ t <= 9223372036854775807) (hv : -9223372036854775808 <= v ∧ v <= 9223372036854775807) :
  Calls Tryz.prog 16 #[.pointer (some ⟨gj, 0, none⟩), .int .i64 t, .int .i64 v] w fun e w' => bI2 W0 w base g m gj (k + 1) es (aE2 j d t v) e w' :=
 (bE9 h.jn h.bw (h.jdk (by omega)) (by omega) (fun w' hb => (h.fac w' hb).tab) t v ht hv).mono fun e w' hto => h.to hto (cA4 h.ri t v).1 (h.rb.setMeta t v ht hv)
theorem cA0 (h : aP8 W0 w base g m gj F k d j es) (hk : k <= 80) (ix t : Int) (hix : -9223372036854775808 <= ix ∧ ix <= 9223372036854775807) (ht : -9223372036854775808 <= t ∧ t <= 9223372036854775807) :
  Calls Tryz.prog 17 #[.pointer (some ⟨gj, 0, none⟩), .int .i64 ix, .int .i64 t] w fun e w' => bI2 W0 w base g m gj (k + 1) es (aF8 j d ix t) e w' :=
 (bE8 h.jn h.bw (h.jdk (by omega)) (by omega) (fun w' hb => (h.fac w' hb).tab) (by have := h.rb.len; omega) (fun s hs => (h.ri.segs.seg s hs).2.1) ix t hix ht).mono fun e w' hto => h.to hto (bW7 h.ri ix t).1 (h.rb.compact ix t hix ht)
theorem bS7 {n : Nat} : ∀ (ss : List aB1), (∀ s ∈ ss, s.l.length <= n) -> ((ss.map aB1.l).flatten).length <= ss.length * n
 | [], _ => by simp
 | s :: r, h => by
  have h1 := bS7 r (fun x hx => h x (List.mem_cons_of_mem _ hx));have h2 := h s (List.mem_cons_self ..);rw [mG, List.flatten_cons, lT, mC, Nat.succ_mul];omega
theorem aP8.entsLen (h : aP8 W0 w base g m gj F k d j es) (hk : k <= 90) : j.ents.length <= 1099511627776 := by
 have h1 := bS7 j.segs h.rb.ent;have h2 := cX7 hk;have h3 := h.rb.len;have h4 : j.segs.length * rbE k <= 90 * 94371840 := Nat.mul_le_mul (by omega) h2;unfold JnP.ents;omega
end
end
section
open Go.RowKit Go.Maps Oct
structure aK4 (W0 w : World) (base g m gj : Nat) (F : Nat -> Prop) (k : Nat) (d : DkD) (j : JnP) (es : List (Nm × FE)) : Prop where
 jn : JnK w base g m gj F d j es
 rb : RB k j d
 low : W0.heap.size <= base
 bw : base <= w.heap.size
 from_ : Below W0.heap.size W0 w
 facts : bG1 W0
structure Aw (lo : Nat) (W6 w : World) (g m gj : Nat) (es : List (Nm × FE)) : Prop where
 le : W6.heap.size <= w.heap.size
 nf : ∀ x, lo <= x -> x < W6.heap.size -> ¬ aA8 g m es x ∧ x ≠ gj
 st : ∀ x, lo <= x ∧ x < W6.heap.size -> w.heap[x]? = W6.heap[x]?
section
variable {W0 W6 w w' : World} {base g m gj k lo : Nat} {F : Nat -> Prop} {d d' : DkD} {j : JnP} {es es' : List (Nm × FE)}
theorem Aw.below (h : Aw lo W6 w g m gj es) (hb : Below w.heap.size w w') : Aw lo W6 w' g m gj es :=
 ⟨Nat.le_trans h.le hb.size, h.nf, fun x hx => (hb.block x (Nat.lt_of_lt_of_le hx.2 h.le)).trans (h.st x hx)⟩
theorem Aw.to (h : Aw lo W6 w g m gj es) (hf : Fr (fun x => aA8 g m es x ∨ x = gj) w w') (hg : ∀ x, aA8 g m es' x -> aA8 g m es x ∨ w.heap.size <= x) : Aw lo W6 w' g m gj es' :=
 ⟨Nat.le_trans h.le hf.size, fun x h1 h2 => ⟨fun h3 => by
  rcases hg x h3 with h4 | h4
  ·exact (h.nf x h1 h2).1 h4
  ·have := h.le; omega, (h.nf x h1 h2).2⟩, fun x hx => (hf.block x (Nat.lt_of_lt_of_le hx.2 h.le) (fun h3 => by
  rcases h3 with h3 | h3
  ·exact (h.nf x hx.1 hx.2).1 h3
  exact (h.nf x hx.1 hx.2).2 h3)).trans (h.st x hx)⟩
theorem Fr.orJ {P : Nat -> Prop} (hf : Fr P w w') : Fr (fun x => P x ∨ x = gj) w w' := hf.mono fun _ _ h => .inl h
theorem aP8.lastK (h : aP8 W0 w base g m gj F k d j es) : aK4 W0 w base g m gj F k d j es := ⟨h.jn, h.rb, h.low, h.bw, h.from_, h.facts⟩
theorem aK4.below (h : aK4 W0 w base g m gj F k d j es) (hb : Below w.heap.size w w') : aK4 W0 w' base g m gj F k d j es :=
 ⟨h.jn.below hb, h.rb, h.low, Nat.le_trans h.bw hb.size, h.from_.trans (hb.mono (Nat.le_trans h.low h.bw)), h.facts⟩
theorem aK4.fac (h : aK4 W0 w base g m gj F k d j es) : ∀ w', Below base w w' -> bG1 w' := fun w' hb => h.facts.below (h.from_.trans (hb.mono h.low))
theorem aK4.jdk (h : aK4 W0 w base g m gj F k d j es) (hk : k <= 70) : JDk 1000000000 d := h.rb.dk.mono (by unfold rbD; omega)
theorem aK4.aw (h : aK4 W0 w base g m gj F k d j es) (hb : Below w.heap.size w w') : Aw w.heap.size w' w' g m gj es :=
 ⟨lR _, fun x h1 h2 => ⟨fun h3 => by have := (h.jn.disk.lt x h3).2; omega, by have := h.jn.jn.lt; omega⟩, fun _ _ => rfl⟩
theorem aK4.step (h : aK4 W0 w base g m gj F k d j es) (hD : aB0 w' base g m d'.pw d'.room es') (hs : sec FE.f es' = d'.fs) (hf : Fr (aA8 g m es) w w') (hg : ∀ x, aA8 g m es' x -> aA8 g m es x ∨ w.heap.size <= x) (hd : JDk (rbD k) d') : aK4 W0 w' base g m gj F k d' j es' :=
 ⟨⟨hD, hs, h.jn.jn.keep hf.size (fun x hx => hf.block x (h.jn.apart x hx).2.1 (h.jn.apart x hx).2.2.2) (hf.block gj h.jn.jn.lt h.jn.nj), fun x hx => by
  have h1 := h.jn.apart x hx;have h2 := hf.size;refine ⟨h1.1, by omega, h1.2.2.1, fun h3 => ?_⟩;rcases hg x h3 with h4 | h4
  ·exact h1.2.2.2 h4
  omega, h.jn.lo⟩, ⟨hd, h.rb.len, h.rb.ent⟩, h.low, Nat.le_trans h.bw hf.size, h.from_.trans ((hf.below h.bw (fun x hx => (h.jn.disk.lt x hx).1)).mono h.low), h.facts⟩
theorem dC9 (h : aK4 W0 w base g m gj F k d j es) (a b : Int) (ha : -9223372036854775808 <= a ∧ a <= 9223372036854775807) (hb : -9223372036854775808 <= b ∧ b <= 9223372036854775807) :
  Calls Tryz.prog 21 #[.pointer (some ⟨g, 0, none⟩), .int .i64 a, .int .i64 b] w fun e w' => (∃ v, e = .returned v) ∧ aK4 W0 w' base g m gj F k ⟨d.pw.arm2 a b, d.room, d.fs⟩ j es ∧ Fr (aA8 g m es) w w' :=
 (dA7 h.jn.disk a b ha hb).mono fun e w' ⟨h1, h2, h3⟩ => ⟨h1, h.step (d' := ⟨d.pw.arm2 a b, d.room, d.fs⟩) h2 h.jn.fs h3 (fun x hx => .inl hx) ⟨h.rb.dk.sz, h.rb.dk.len, h.rb.dk.nm⟩, h3⟩
theorem cV8 (h : aK4 W0 w base g m gj F k d j es) (hk : k <= 70) (A : Option Addr) (z : List Int) (cz : Nat) (hz : Rd w base A (z.map (Value.int .i64))) (a8 : ∀ n ∈ z, -9223372036854775808 <= n ∧ n <= 9223372036854775807) (a9 : z.length <= 140737488351232) :
  Calls Tryz.prog 22 #[.pointer (some ⟨g, 0, none⟩), .slice A z.length cz] w fun e w' => (∃ v, e = .returned v) ∧ ∃ es', aK4 W0 w' base g m gj F k (d.boot z) j es' ∧ Fr (aA8 g m es) w w' ∧ ∀ x, aA8 g m es' x -> aA8 g m es x ∨ w.heap.size <= x := by
 have hd := h.jdk hk;have a7 : ∀ q ∈ es, (q.1, q.2.f) ∈ d.fs := fun q hq => by rw [<- h.jn.fs]; exact List.mem_map.2 ⟨q, hq, rfl⟩
 have h1 := bW9 h.jn.disk A z cz hz a8 a9 (by have h1 := congrArg List.length h.jn.fs; simp [sec] at h1; have := hd.len; omega) (fun q hq => by have h1 := aP3 (a7 q hq); have h2 := hd.sz; have h3 : (q.2.f.b.length : Int) <= aB7 d.fs := h1; omega) (fun q hq => by have h1 : q.1.length <= 1000 := hd.nm _ (a7 q hq); omega);rw [DkD.eta' _ h.jn.fs] at h1;exact h1.mono fun e w' ⟨h2, es', h3, h4, h5, h6⟩ => ⟨h2, es', h.step h3 h4 h5 h6 (h.rb.dk.boot z), h5, h6⟩
theorem cV9 (h : aK4 W0 w base g m gj F k d j es) (hk : k <= 70) {jk : JnP} (ho : aL5 d = (0, some jk, d')) :
  Calls Tryz.prog 14 #[.pointer (some ⟨g, 0, none⟩)] w fun e w' => ∃ (gk : Nat) (F2 : Nat -> Prop), e = .returned (.tuple #[.pointer (some ⟨gk, 0, none⟩), .int .i64 0]) ∧ JAt w' F2 gk g jk ∧ (∀ x, F2 x -> x < w'.heap.size) ∧ JAt w' F gj g j ∧ (∀ x, F x -> x < w'.heap.size) ∧ ∃ es', Fr (aA8 g m es) w w' ∧ ∀ x, aA8 g m es' x -> aA8 g m es x ∨ w.heap.size <= x := by
 have he : aD2 d.pw d.room es = d := DkD.eta' _ h.jn.fs;have h1 := bA4 h.jn.disk (L := 1000000000) (by rw [he]; exact h.jdk hk) (lR _) h.bw (fun w' hb => ⟨(h.fac w' hb).tab, (h.fac w' hb).err⟩);rw [he, ho] at h1;refine h1.mono fun e w' ⟨es', h2, h3, h4, h5, h6⟩ => ?_
 simp only at h6;obtain ⟨gk, F2, h7, h8, h9, a7⟩ := h6;have hs := h4.size;exact ⟨gk, F2, h7, h9, fun x hx => (a7 x hx).2.1, h.jn.jn.keep hs (fun x hx => h4.block x (h.jn.apart x hx).2.1 (h.jn.apart x hx).2.2.2) (h4.block gj h.jn.jn.lt h.jn.nj), fun x hx => by have := (h.jn.apart x hx).2.1; omega, es', h4, h5⟩
def cH3 (W0 w : World) (base g m gj k : Nat) (es : List (Nm × FE)) (r : Int × JnP × DkD) (e : Ending) (w' : World) : Prop :=
 e = .returned (.int .i64 r.1) ∧ ∃ es' F', aK4 W0 w' base g m gj F' k r.2.2 r.2.1 es' ∧ Fr (fun x => aA8 g m es x ∨ x = gj) w w' ∧ ∀ x, aA8 g m es' x -> aA8 g m es x ∨ w.heap.size <= x
theorem aK4.to (h : aK4 W0 w base g m gj F k d j es) {r : Int × JnP × DkD} {e : Ending} (ht : cC5 w base g m gj es F r e w') (a8 : RB (k + 1) r.2.1 r.2.2) : cH3 W0 w base g m gj (k + 1) es r e w' := by
 obtain ⟨he, es', F', hj, a7, hg, _⟩ := ht;have hb : Below base w w' := a7.below h.bw (fun x hx => by
  rcases hx with hx | hx
  ·exact (h.jn.disk.lt x hx).1
  rw [hx]; exact h.jn.lo)
 exact ⟨he, es', F', ⟨hj, a8, h.low, Nat.le_trans h.bw a7.size, h.from_.trans (hb.mono h.low), h.facts⟩, a7, hg⟩
theorem aK4.jdk2 (h : aK4 W0 w base g m gj F k d j es) (hk : k <= 70) : JDk 100000000000 d := (h.jdk hk).mono (by omega)
theorem cW0 (h : aK4 W0 w base g m gj F k d j es) (hp : bS1 j d) (hk : k <= 70) {E : Nat -> Prop} (Ae : Option Addr) (rs : List aD8) (ce : Nat) (d8 : RdF w E Ae (aA7 rs)) (a9 : ∀ q ∈ rs, bB7 w E q.v q.e.b) (a8 : ∀ k, E k -> k < w.heap.size) (f7 : (rs.map fun q => q.e.b.length + 5).sum <= 1048576)
  (a7 : ∀ q ∈ rs, (-9223372036854775808 <= q.e.ix ∧ q.e.ix <= 9223372036854775807) ∧ (-9223372036854775808 <= q.e.tm ∧ q.e.tm <= 9223372036854775807) ∧ (-9223372036854775808 <= q.e.kd ∧ q.e.kd <= 9223372036854775807)) :
  Calls Tryz.prog 15 #[.pointer (some ⟨gj, 0, none⟩), .slice Ae rs.length ce] w fun e w' => cH3 W0 w base g m gj (k + 1) es (aI9 j d (rs.map aD8.e)) e w' := by
 have e9 := bA1 rs;have b8 : ((rs.map aD8.e).map aC9).flatten.length <= 12600000 := by
  have h1 := bD0 (rs.map aD8.e) (fun e he => by
   obtain ⟨q, hq, rfl⟩ := List.mem_map.1 he;exact ⟨(a7 q hq).2.1, (a7 q hq).2.2⟩)
  have h2 : (((rs.map aD8.e).map fun e => e.b.length + 5).sum) = (rs.map fun q => q.e.b.length + 5).sum := by rw [List.map_map]; rfl
  rw [h2] at h1;omega
 refine (bY9 h.jn h.bw (h.jdk2 hk) (by omega) (fun w' hb => (h.fac w' hb).tab) hp.seg hp.ks hp.long hp.ends hp.sum Ae rs ce d8 a9 a8 (by omega) (by omega) a7).mono fun e w' ht => ?_
 refine h.to ht (h.rb.save _ h.jn.jn.segB (fun e he => ?_) (by rw [lU]; omega) b8);obtain ⟨q, hq, rfl⟩ := List.mem_map.1 he;exact (a7 q hq).1.2
theorem bZ1 (h : aK4 W0 w base g m gj F k d j es) (hk : k <= 70) (t v : Int) (ht : -9223372036854775808 <= t ∧ t <= 9223372036854775807) (hv : -9223372036854775808 <= v ∧ v <= 9223372036854775807) :
  Calls Tryz.prog 16 #[.pointer (some ⟨gj, 0, none⟩), .int .i64 t, .int .i64 v] w fun e w' => cH3 W0 w base g m gj (k + 1) es (aE2 j d t v) e w' :=
 (bE9 h.jn h.bw (h.jdk2 hk) (by omega) (fun w' hb => (h.fac w' hb).tab) t v ht hv).mono fun e w' hto => h.to hto (h.rb.setMeta t v ht hv)
theorem bZ0 (h : aK4 W0 w base g m gj F k d j es) (hp : bS1 j d) (hk : k <= 70) (ix t : Int) (hix : -9223372036854775808 <= ix ∧ ix <= 9223372036854775807) (ht : -9223372036854775808 <= t ∧ t <= 9223372036854775807) :
  Calls Tryz.prog 17 #[.pointer (some ⟨gj, 0, none⟩), .int .i64 ix, .int .i64 t] w fun e w' => cH3 W0 w base g m gj (k + 1) es (aF8 j d ix t) e w' :=
 (bE8 h.jn h.bw (h.jdk2 hk) (by omega) (fun w' hb => (h.fac w' hb).tab) (by have := h.rb.len; omega) hp.ks ix t hix ht).mono fun e w' hto => h.to hto (h.rb.compact ix t hix ht)
theorem aK4.entsLen (h : aK4 W0 w base g m gj F k d j es) (hk : k <= 90) : j.ents.length <= 10000000000 := by
 have h1 := bS7 j.segs h.rb.ent;have h2 := cX7 hk;have h3 := h.rb.len;have h4 : j.segs.length * rbE k <= 90 * 94371840 := Nat.mul_le_mul (by omega) h2;unfold JnP.ents;omega
theorem cE3 (h : JAt w F gj g j) (hF : ∀ x, F x -> x < w.heap.size) (hn : j.ents.length <= 1099511627776) :
  Calls Tryz.prog 18 #[.pointer (some ⟨gj, 0, none⟩)] w fun e w' => ∃ A rs c, e = .returned (.slice A (rs : List aD8).length c) ∧ RdF w' (fun x => w.heap.size <= x ∧ x < w'.heap.size) A (aA7 rs) ∧ rs.map aD8.e = j.ents ∧ (∀ q ∈ rs, bB7 w' (fun x => w.heap.size <= x ∧ x < w'.heap.size) q.v q.e.b) ∧ rs.length <= c ∧ c <= 9223372036854775807 ∧ Below w.heap.size w w' := by
 refine (h.entries hF hn).mono fun e w' ⟨v, rs, h1, h2, h3, h4, h5⟩ => ?_
 obtain ⟨A, c, hv, a7, a8, _⟩ := aC2 h2;subst hv;refine ⟨A, rs, c, h1, RdF.of_row h2 (fun x h6 h7 => ⟨h6, h7⟩) (by rw [aC0]; omega), h3, fun q hq => ?_, a7, a8, h5⟩;have h6 := h4 q hq;obtain ⟨A1, c1, e1, k1, k2, _⟩ := aD5 h6;rw [e1] at h6;exact ⟨A1, c1, e1, k1, k2, RdF.of_own h6 (fun x h7 h8 => ⟨h7, h8⟩)⟩
end
end
section
open Go.RowKit Go.Maps Oct
def sd0 : DkD := ⟨⟨false, false, 0, 0⟩, 1000, []⟩
def sj0 : JnP := ⟨0, 0, [], 0⟩
def sl1 : List aF9 := [⟨1, 1, 0, [97]⟩, ⟨2, 1, 0, [98]⟩]
def sl2 : List aF9 := [⟨2, 2, 0, [99]⟩]
def sr1 : Int × JnP × DkD := aI9 sj0 sd0 sl1
def sr2 : Int × JnP × DkD := aI9 sr1.2.1 sr1.2.2 sl2
def sr3 : Int × JnP × DkD := aE2 sr2.2.1 sr2.2.2 3 1
def sd4 : DkD := sr3.2.2.boot []
def sr4 : Int × Option JnP × DkD := aL5 sd4
def sj4 : JnP := sr4.2.1.getD sj0
theorem dF2 : sr1.1 = 0 ∧ sr2.1 = 0 ∧ sr3.1 = 0 ∧ sr4.1 = 0 := ⟨by kernel_rfl, by kernel_rfl, by kernel_rfl, by kernel_rfl⟩
theorem dF1 : sr4.2.1 = some sj4 := by
 have h : sr4.2.1.isSome = true := by kernel_rfl
 unfold sj4;cases hq : sr4.2.1 with
 | none => rw [hq] at h; cases h
 | some x => rfl
theorem cA8 : sj4.term = 3 ∧ sj4.vote = 1 ∧ sj4.ents.length = 2 ∧ (sj4.ents[1]?).map aF9.b = some [99] := ⟨by kernel_rfl, by kernel_rfl, by kernel_rfl, by kernel_rfl⟩
theorem dN9 : aL5 sd0 = (0, some sj0, sd0) := by kernel_rfl
theorem ri0 {room : Int} : RI sj0 ⟨⟨false, false, 0, 0⟩, room, []⟩ := ⟨rfl, ⟨rfl, rfl⟩, (fun s hs => by cases hs), List.Pairwise.nil⟩
theorem rb0 {room : Int} : RB 0 sj0 ⟨⟨false, false, 0, 0⟩, room, []⟩ := ⟨⟨by simp [aB7, rbD], by simp [rbD], fun q hq => by cases hq⟩, by simp [sj0], fun s hs => by cases hs⟩
theorem aY7 {w W : World} (o : Obj) (hb : Below (w.heap.size + 1) (w.alloc o) W) : W.heap[w.heap.size]? = some o := (hb.block _ (by omega)).trans (Go.heap_alloc_new w o)
theorem aV6 {w W : World} (o1 o : Obj) (hb : Below (w.heap.size + 1 + 1) ((w.alloc o1).alloc o) W) : W.heap[w.heap.size + 1]? = some o := by
 have e : (w.alloc o1).heap.size = w.heap.size + 1 := by simp
 have h := aY7 (w := w.alloc o1) (W := W) o (by rw [e]; exact hb)
 rwa [e] at h
theorem bY1 {w W : World} (o1 o2 o : Obj) (hb : Below (w.heap.size + 1 + 1 + 1) (((w.alloc o1).alloc o2).alloc o) W) : W.heap[w.heap.size + 1 + 1]? = some o := by
 have e : (w.alloc o1).heap.size = w.heap.size + 1 := by simp
 have h := aV6 (w := w.alloc o1) (W := W) o2 o (by rw [e]; exact hb)
 rwa [e] at h
theorem dN8 : JDk 1000000000 sd4 := by
 have h3 : sd4.fs.all (fun q => decide (q.1.length <= 1000)) = true := by kernel_rfl
 exact ⟨of_decide_eq_true (by kernel_rfl), of_decide_eq_true (by kernel_rfl), fun q hq => of_decide_eq_true (List.all_eq_true.1 h3 q hq)⟩
theorem bA9 {w : World} {b : Nat} {T : TypeId} {cs : Array Value} {fz : Nat × Nat} (h : w.heap[b]? = some (.cells cs T fz)) {F : Nat -> Prop} (hF : F b) : RdF w F (some ⟨b, 0, none⟩) cs.toList := fun _ =>
 ⟨b, 0, rfl, hF, (Array.getElem?_eq_some_iff.1 h).1, fun j u hu => by rw [Nat.zero_add, Go.cell_of_row w b j cs T fz h, <- Array.getElem?_toList]; exact hu⟩
theorem cN7 (W0 : World) (hF : bG1 W0) : Calls Tryz.prog 7 #[] W0 fun e w' => e = .returned (.bool true) ∧ Below W0.heap.size W0 w' := by
 have HF := qZ hF;clear hF;have kc := fun (w : World) (C : Array Value) (n c : Nat) => Lib.run_convert_bytes_const (P := Tryz.prog) w 34 5 C n c Tryz.underlying34 Tryz.underlying5
 go_enter Tryz.func7, Tryz.ntmps7
 go_wp2_with fail
 refine (cI6 1000 (by omega) W0).mono ?_;rintro e w1 ⟨rfl, hD, g7⟩;have n9 : aB0 w1 W0.heap.size (W0.heap.size + 1) W0.heap.size sd0.pw sd0.room [] := hD;have j9 := qZ g7;have t8 := g7.size;have b8 := qZ (bA4 n9 (L := 1000) ⟨by simp [aB7, aD2, sec], by simp [aD2, sec], fun q hq => by cases hq⟩ (by omega) t8 (fun w' hb => ⟨(HF.out.below (j9.out.trans hb)).tab, (HF.out.below (j9.out.trans hb)).err⟩));have he : aD2 sd0.pw sd0.room [] = sd0 := rfl;rw [he, dN9] at b8;clear g7 hD n9 he;go_wp2_with fail
 refine b8.out.mono ?_;rintro e w2 ⟨es2, o7, p5, a9, m2, hm⟩;simp only at hm;obtain ⟨gj, F, rfl, B7, hJ, l8⟩ := hm;have q6 : Below W0.heap.size w1 w2 := a9.below t8 (fun x hx => by
  rcases hx with h | h | ⟨q, hq, _⟩
  ·omega
  ·omega
  cases hq)
 have n6 : Hid (aP8 W0 w2 W0.heap.size (W0.heap.size + 1) W0.heap.size gj F 0 sd0 sj0 es2) := qZ ⟨⟨o7, p5, hJ, fun x hx => ⟨by have := (l8 x hx).1; omega, (l8 x hx).2⟩, by omega⟩, ri0, rb0, lR _, by have := a9.size; omega, j9.out.trans q6, HF.out⟩;have B9 := a9.size;clear o7 p5 a9 m2 hJ l8 q6 b8;have B5 : (convert 34 34 (.slice (some ⟨w2.heap.size + 1, 0, none⟩) 1 1)).run Tryz.prog ((w2.alloc (.cells #[.int .u8 97] 5 (1, 2))).alloc (.cells #[.int .u8 98] 5)) = .ok (.slice (some ⟨w2.heap.size + 1, 0, none⟩) 1 1) ((w2.alloc (.cells #[.int .u8 97] 5 (1, 2))).alloc (.cells #[.int .u8 98] 5 (1, 2))) := by
  have h := kc (w2.alloc (.cells #[.int .u8 97] 5 (1, 2))) #[.int .u8 98] 1 1;have e : (w2.alloc (.cells #[.int .u8 97] 5 (1, 2))).heap.size = w2.heap.size + 1 := by simp
  rw [e] at h;exact h
 go_wp2_with fail
 obtain ⟨wA, g6⟩ : ∃ W, W = ((w2.alloc (.cells #[.int .u8 97] 5 (1, 2))).alloc (.cells #[.int .u8 98] 5 (1, 2))).alloc (.cells #[.int .i64 1, .int .i64 1, .int .i64 0, .slice (some ⟨w2.heap.size, 0, none⟩) 1 1, .int .i64 2, .int .i64 1, .int .i64 0, .slice (some ⟨w2.heap.size + 1, 0, none⟩) 1 1] 65) := ⟨_, rfl⟩
 have q8 : Below w2.heap.size w2 wA := by rw [g6]; exact (((lS _ w2).alloc (lR _) _).alloc (by simp) _).alloc (by simp <;> omega) _
 have p7 : wA.heap[w2.heap.size]? = some (.cells #[.int .u8 97] 5 (1, 2)) := by rw [g6]; exact aY7 _ (((lS _ _).alloc (by simp) _).alloc (by simp <;> omega) _)
 have p8 : wA.heap[w2.heap.size + 1]? = some (.cells #[.int .u8 98] 5 (1, 2)) := by rw [g6]; exact aV6 _ _ ((lS _ _).alloc (by simp) _)
 have p9 : wA.heap[w2.heap.size + 1 + 1]? = some (.cells #[.int .i64 1, .int .i64 1, .int .i64 0, .slice (some ⟨w2.heap.size, 0, none⟩) 1 1, .int .i64 2, .int .i64 1, .int .i64 0, .slice (some ⟨w2.heap.size + 1, 0, none⟩) 1 1] 65) := by rw [g6]; exact bY1 _ _ _ (lS _ _)
 have C6 : wA.heap.size = w2.heap.size + 3 := by rw [g6]; simp
 rw [<- g6];have g9 : Hid (Calls Tryz.prog 15 #[.pointer (some ⟨gj, 0, none⟩), .slice (some ⟨w2.heap.size + 1 + 1, 0, none⟩) 2 2] wA fun e w' => bI2 W0 wA W0.heap.size (W0.heap.size + 1) W0.heap.size gj 1 es2 sr1 e w') := qZ (bM2 (n6.out.below q8) (by omega) (E := fun x => x < wA.heap.size) (some ⟨w2.heap.size + 1 + 1, 0, none⟩) [⟨.slice (some ⟨w2.heap.size, 0, none⟩) 1 1, ⟨1, 1, 0, [97]⟩⟩, ⟨.slice (some ⟨w2.heap.size + 1, 0, none⟩) 1 1, ⟨2, 1, 0, [98]⟩⟩] 2 (bA9 p9 (by omega)) (fun q hq => by
   simp only [List.mem_cons, List.not_mem_nil, or_false] at hq;rcases hq with rfl | rfl
   ·exact ⟨_, _, rfl, lR _, by simp, bA9 p7 (by omega)⟩
   ·exact ⟨_, _, rfl, lR _, by simp, bA9 p8 (by omega)⟩) (fun _ h => h) (by simp) (fun q hq => by
   simp only [List.mem_cons, List.not_mem_nil, or_false] at hq;rcases hq with rfl | rfl <;> simp))
 clear g6 q8 p7 p8 p9 B5 n6;refine g9.out.mono ?_;rintro e w3 ⟨he, ⟨x8, F3, p0⟩, i1⟩;rw [dF2.1] at he;subst he;have n7 := qZ p0;have C0 := i1.size;clear p0 i1 g9;go_wp2_with fail
 obtain ⟨wB, g8⟩ : ∃ W, W = (w3.alloc (.cells #[.int .u8 99] 5 (1, 2))).alloc (.cells #[.int .i64 2, .int .i64 2, .int .i64 0, .slice (some ⟨w3.heap.size, 0, none⟩) 1 1] 65) := ⟨_, rfl⟩
 have q9 : Below w3.heap.size w3 wB := by rw [g8]; exact ((lS _ w3).alloc (lR _) _).alloc (by simp) _
 have q5 : wB.heap[w3.heap.size]? = some (.cells #[.int .u8 99] 5 (1, 2)) := by rw [g8]; exact aY7 _ ((lS _ _).alloc (by simp) _)
 have g7 : wB.heap[w3.heap.size + 1]? = some (.cells #[.int .i64 2, .int .i64 2, .int .i64 0, .slice (some ⟨w3.heap.size, 0, none⟩) 1 1] 65) := by rw [g8]; exact aV6 _ _ (lS _ _)
 have C7 : wB.heap.size = w3.heap.size + 2 := by rw [g8]; simp
 rw [<- g8];have g9 : Hid (Calls Tryz.prog 15 #[.pointer (some ⟨gj, 0, none⟩), .slice (some ⟨w3.heap.size + 1, 0, none⟩) 1 1] wB fun e w' => bI2 W0 wB W0.heap.size (W0.heap.size + 1) W0.heap.size gj 2 x8 sr2 e w') := qZ (bM2 (n7.out.below q9) (by omega) (E := fun x => x < wB.heap.size) (some ⟨w3.heap.size + 1, 0, none⟩) [⟨.slice (some ⟨w3.heap.size, 0, none⟩) 1 1, ⟨2, 2, 0, [99]⟩⟩] 1 (bA9 g7 (by omega)) (fun q hq => by
   obtain rfl := List.mem_singleton.1 hq;exact ⟨_, _, rfl, lR _, by simp, bA9 q5 (by omega)⟩) (fun _ h => h) (by simp) (fun q hq => by
   obtain rfl := List.mem_singleton.1 hq;simp))
 clear g8 q9 q5 g7 n7;refine g9.out.mono ?_;rintro e w4 ⟨he, ⟨y7, F4, p4⟩, i2⟩;rw [dF2.2.1] at he;subst he;have C1 := i2.size;have n8 : Hid (Calls Tryz.prog 16 #[.pointer (some ⟨gj, 0, none⟩), .int .i64 3, .int .i64 1] w4 fun e w' => bI2 W0 w4 W0.heap.size (W0.heap.size + 1) W0.heap.size gj 3 y7 sr3 e w') := qZ (bF8 p4 (by omega) 3 1 (by omega) (by omega));clear p4 i2 g9;go_wp2_with fail
 refine n8.out.mono ?_;rintro e w5 ⟨he, ⟨y8, F5, a8⟩, i3⟩;rw [dF2.2.2.1] at he;subst he;have C2 := i3.size;have j8 := a8.jdk (by omega);have a7 : ∀ q ∈ y8, (q.1, q.2.f) ∈ sr3.2.2.fs := fun q hq => by rw [<- a8.jn.fs]; exact List.mem_map.2 ⟨q, hq, rfl⟩
 have l9 := bW9 a8.jn.disk none [] 0 Rd.none_ (fun n hn => by cases hn) (by simp) (by have h := congrArg List.length a8.jn.fs; simp [sec] at h; have := j8.len; omega) (fun q hq => by have h1 := aP3 (a7 q hq); have h2 := j8.sz; have h3 : (q.2.f.b.length : Int) <= aB7 sr3.2.2.fs := h1; omega) (fun q hq => by have h1 : q.1.length <= 1000 := j8.nm _ (a7 q hq); omega);rw [DkD.eta' _ a8.jn.fs] at l9;have m6 := qZ l9;have x7 := qZ (fun k hk => (a8.jn.disk.lt k hk).1);have m5 := qZ a8.from_;have m0 := a8.bw;clear a8 i3 n8 l9 j8 a7;go_wp2_with fail
 refine m6.out.mono ?_;rintro e w6 ⟨⟨v6, rfl⟩, y9, l7, p6, d8, m3⟩;have C3 := d8.size;have l4 := qZ (m5.out.trans (d8.below m0 x7.out));have e4 : aD2 (sr3.2.2.boot []).pw (sr3.2.2.boot []).room y9 = sd4 := DkD.eta' sd4 p6;have b8 := qZ (bA4 l7 (L := 1000000000) (by rw [e4]; exact dN8) (lR _) (by omega) (fun w' hb => ⟨(HF.out.below (l4.out.trans hb)).tab, (HF.out.below (l4.out.trans hb)).err⟩));rw [e4] at b8;have l5 := qZ (fun k hk => (l7.lt k hk).1);clear l7 p6 e4 d8 m3 m6 m5;go_wp2_with fail
 refine b8.out.mono ?_;rintro e w7 ⟨B6, z8, z9, e9, m4, hm⟩;have i4 : aL5 sd4 = sr4 := rfl;rw [i4, dF1, dF2.2.2.2] at hm;simp only at hm;obtain ⟨gk, F7, rfl, B8, o9, o8⟩ := hm;have C4 := e9.size;have m9 := qZ o9;have m8 := qZ o8;have x4 : Hid (Below W0.heap.size W0 w7) := qZ (l4.out.trans (e9.below (by omega) l5.out));clear z8 z9 e9 m4 o9 o8 b8 i4;have l6 := qZ m9.out.meta_;rw [cA8.1, cA8.2.1] at l6;go_wp2_with fail
 refine l6.out.mono ?_;rintro e w8 ⟨rfl, j6⟩;have C5 := j6.size;have x5 := qZ (x4.out.trans (j6.mono (by omega)));have m7 := qZ ((m9.out.below (fun x hx => (m8.out x hx).2.1) j6).entries (fun x hx => by have := (m8.out x hx).2.1; omega) (by rw [cA8.2.2.1]; omega));clear j6 l6;go_wp2_with fail
 refine m7.out.mono ?_;rintro e w9 ⟨v9, i6, rfl, f9, f8, r9, q7⟩;have B2 : i6.length = 2 := by
  have h1 := congrArg List.length f8;rw [lU, cA8.2.2.1] at h1;exact h1
 have f7 : 1 < i6.length := by omega
 obtain ⟨A9, c9, B4, _⟩ := aC2 f9;subst B4;obtain ⟨b, o, z7, _, B1, hc⟩ := (RdF.of_row (F := fun _ => True) f9 (fun _ _ _ => trivial) (by rw [aC0]; omega)) (by rw [aC0]; omega);subst z7;have s9 : i6[1].e.b = [99] := by
  have h1 := cA8.2.2.2;rw [<- f8, List.getElem?_map, lW f7] at h1
  simpa using h1
 have hq := r9 i6[1] (lX f7);rw [s9] at hq;obtain ⟨A1, c1, t9, k1, k2, t7⟩ := aD5 hq;have e3 : w9.cell? ⟨b, o + 4 + 3, none⟩ = some (.slice A1 1 c1) := by
  have h := hc (1 * 4 + 3) _ (by rw [aE6 i6 f7 (by omega)]; exact rfl);rw [t9] at h
  simpa [Nat.add_assoc] using h
 have C8 : (convert 34 9 (.slice A1 1 c1)).run Tryz.prog w9 = .ok (.string ⟨#[99]⟩) w9 := bN0 c1 t7;have x6 := qZ (x5.out.trans (q7.mono (by omega)));rw [B2];clear f9 f8 r9 q7 hc s9 hq t9 t7 m7;go_wp2_with fail
 go_ret
 exact ⟨rfl, x6.out⟩
end
section
open Go.RowKit Go.Maps Oct
structure ER (w : World) (F : Nat -> Prop) (A : Option Addr) (rs : List aD8) (c : Nat) (l : List aF9) : Prop where
 rd : RdF w F A (aA7 rs)
 is : rs.map aD8.e = l
 dat : ∀ q ∈ rs, bB7 w F q.v q.e.b
 lt : ∀ x, F x -> x < w.heap.size
 len : rs.length <= c ∧ c <= 9223372036854775807 ∧ rs.length <= 1099511627776
 txt : ∀ q ∈ rs, q.e.b.length <= 140737488351232
section
variable {W0 w w' : World} {base g m gj k : Nat} {F E : Nat -> Prop} {d : DkD} {j : JnP} {es : List (Nm × FE)} {A B : Option Addr} {ra rb : List aD8} {ca cb : Nat} {l n : List aF9}
theorem ER.keep (h : ER w F A ra ca l) (hs : w.heap.size <= w'.heap.size) (hk : ∀ x, F x -> w'.heap[x]? = w.heap[x]?) : ER w' F A ra ca l :=
 ⟨h.rd.keep hs hk, h.is, fun q hq => (h.dat q hq).keep hs hk, fun x hx => Nat.lt_of_lt_of_le (h.lt x hx) hs, h.len, h.txt⟩
theorem ER.below (h : ER w F A ra ca l) (hb : Below w.heap.size w w') : ER w' F A ra ca l := h.keep hb.size fun x hx => hb.block x (h.lt x hx)
theorem ER.alen (h : ER w F A ra ca l) : ra.length = l.length := by rw [<- h.is, lU]
theorem ER.same (h : ER w F A ra ca l) (k : ER w E B rb cb n) : Calls Tryz.prog 23 #[.slice A ra.length ca, .slice B rb.length cb] w fun e w' => e = .returned (.bool (aP6 l n)) ∧ Below w.heap.size w w' := by
 have h1 := bL1 A B ra rb ca cb w h.rd k.rd h.dat k.dat h.lt k.lt h.len.2.2 k.len.2.2 h.txt k.txt;rw [h.is, k.is] at h1;exact h1
theorem ER.drop (h : ER w F A ra ca l) {p : Nat} (hp : p <= ra.length) : ER w F (dI6 A p ca 4) (ra.drop p) (ca - p) (l.drop p) :=
 ⟨cS9 h.rd hp h.len.1, by rw [List.map_drop, h.is], fun q hq => h.dat q (List.mem_of_mem_drop hq), h.lt, by rw [lZ]; have := h.len; omega, fun q hq => h.txt q (List.mem_of_mem_drop hq)⟩
theorem ER.keptTo {C : Option Addr} {rc : List aD8} {cc : Nat} {G : Nat -> Prop} {p : List aF9} {keep : Int} (h : ER w F A ra ca l) (k : ER w E B rb cb n) (q : ER w G C rc cc p) (hkr : -9223372036854775808 <= keep ∧ keep <= 9223372036854775807) (hk : dI1 l n keep p) :
  Calls Tryz.prog 24 #[.slice A ra.length ca, .slice B rb.length cb, .int .i64 keep, .slice C rc.length cc] w fun e w' => e = .returned (.bool true) ∧ Below w.heap.size w w' :=
 cU7 A B C ra rb rc ca cb cc keep w h.rd k.rd q.rd h.dat k.dat q.dat h.lt k.lt q.lt h.len k.len q.len h.txt k.txt q.txt hkr (by rw [h.is, k.is, q.is]; exact hk)
theorem JAt.txt3 (h : JAt w F gj g j) : ∀ e ∈ j.ents, e.b.length <= 65535 := fun e he => by
 obtain ⟨⟨A, c, ads, h1, h2, h3, h4, h5⟩, _⟩ := h;unfold JnP.ents at he;obtain ⟨l, hl, hel⟩ := List.mem_flatten.1 he;obtain ⟨s, hs, rfl⟩ := List.mem_map.1 hl;obtain ⟨i, hi, rfl⟩ := List.getElem_of_mem hs;exact (h5 i (by omega) hi).txt e hel
theorem cU2 (h : JAt w F gj g j) (hF : ∀ x, F x -> x < w.heap.size) (hn : j.ents.length <= 1099511627776) :
  Calls Tryz.prog 18 #[.pointer (some ⟨gj, 0, none⟩)] w fun e w' => ∃ A rs c, e = .returned (.slice A (rs : List aD8).length c) ∧ ER w' (fun x => w.heap.size <= x ∧ x < w'.heap.size) A rs c j.ents ∧ Below w.heap.size w w' :=
 (cE3 h hF hn).mono fun e w' ⟨A, rs, c, h1, h2, h3, h4, h5, h6, h7⟩ => ⟨A, rs, c, h1, ⟨h2, h3, h4, fun x hx => hx.2, ⟨h5, h6, by have h8 := congrArg List.length h3; rw [lU] at h8; omega⟩, fun q hq => by
  have h8 : q.e ∈ j.ents := by rw [<- h3]; exact List.mem_map.2 ⟨q, hq, rfl⟩
  have := h.txt3 _ h8;omega⟩, h7⟩
theorem cI8 : ∀ {rs : List aD8} {q : aD8}, q ∈ rs -> q.e.b.length <= (rs.map fun q => q.e.b.length + 5).sum
 | x :: r, q, h => by
  rw [mG, List.sum_cons];rcases List.mem_cons.1 h with rfl | h
  ·omega
  have := cI8 h; omega
theorem bV8.er {c : Nat} (h : bV8 w A ra c) (hw : aV0 ra <= 1048576) : ER w (fun x => x < w.heap.size) A ra c (ra.map aD8.e) :=
 ⟨h.rd, rfl, h.dat, fun _ hx => hx, by have h1 := h.le; have h2 := h.cap; have h3 := bA1 ra; unfold aV0 at hw; omega, fun q hq => by have h3 := cI8 hq; unfold aV0 at hw; omega⟩
theorem aR0.calm {pw : PWD} {room : Int} {r : Int × JnP × DkD} {P : JnP -> Prop} (h : aR0 pw room r P) (hc : aI6 pw) : Good r.2.1 r.2.2.fs := by
 rcases h with ⟨_, a8, a7, h2, _, _, h5⟩ | ⟨h1, _⟩
 ·rw [h2]; exact h5
 exact absurd hc h1
theorem cT6 (h : Good j d.fs) (hc : aI6 d.pw) (a7 : ∀ e ∈ l, e.ix <= 9223372036854775807 ∧ e.tm <= 9223372036854775807 ∧ e.kd <= 9223372036854775807) : Good (aI9 j d l).2.1 (aI9 j d l).2.2.fs := by
 obtain ⟨pw, room, fs⟩ := d;exact (bR4 h hc.1 a7).calm hc
theorem cT5 (h : Good j d.fs) (hc : aI6 d.pw) {t v : Int} (ht : -9223372036854775808 <= t ∧ t <= 9223372036854775807) (hv : -9223372036854775808 <= v ∧ v <= 9223372036854775807) : Good (aE2 j d t v).2.1 (aE2 j d t v).2.2.fs := by
 obtain ⟨pw, room, fs⟩ := d;exact (bB3 h hc.1 ht hv).calm hc
theorem cT4 (h : Good j d.fs) (hc : aI6 d.pw) {ix t : Int} (ht : t <= 9223372036854775807) : Good (aF8 j d ix t).2.1 (aF8 j d ix t).2.2.fs := by
 obtain ⟨pw, room, fs⟩ := d;exact (aZ8 h hc.1 ht).calm hc
theorem cM3 : Good sj0 [] := ⟨rfl, aE9.nil, ⟨none, FX.empty, .inl ⟨rfl, rfl, rfl⟩⟩, ⟨by decide, by decide⟩, ⟨by decide, by decide⟩⟩
theorem aT3 : ∀ l : List aF9, aP6 l l = true
 | [] => rfl
 | x :: r => by
  unfold aP6;rw [(cS7 x x).2 rfl, aT3 r]
  rfl
theorem cQ5.len {o n m : Int} {l : List aF9} {r : Int × JnP × DkD} {k : JnP} {N : Nat} (h : cQ5 o n m l j r k) (h1 : r.2.1.ents.length <= N) (h2 : j.ents.length + l.length <= N) : k.ents.length <= N := by
 rcases h with ⟨_, rfl⟩ | ⟨_, ⟨_, hs, _⟩ | ⟨_, e0, rr, _, _, _, _, ⟨p, _, _, h3⟩ | ⟨q, p, _, _, _, h3⟩⟩ | ⟨_, _, _, ⟨q, _, _, h3⟩ | ⟨h3, _⟩⟩⟩
 ·exact h1
 ·have h3 : k.ents = j.ents := by unfold JnP.ents; rw [hs]
  rw [h3]; omega
 ·rw [h3, lV]; omega
 ·rw [h3, lT, lV, lV]; omega
 ·rw [h3, lZ]; omega
 rw [h3]; simp
end
end
section
open Go.RowKit Go.Maps Oct
theorem dL8 {acs : List aX4} {a : aX4} (h : a ∈ acs) : a.wt <= (acs.map aX4.wt).sum := by
 induction acs with
 | nil => cases h
 | cons x r ih =>
  rw [mG, List.sum_cons];rcases List.mem_cons.1 h with rfl | h
  ·omega
  have := ih h; omega
theorem base_le {j : JnP} (h : aE9 j.segs) : j.base.1 <= 9223372036854775807 := by
 unfold JnP.base;split
 ·show (0 : Int) <= _; omega
 rename_i s r hs
 have := (h.seg s (by rw [hs]; simp)).1.first.2;unfold aD6 at this;show s.first - 1 <= _
 omega
theorem dO0 (rm : Int) : aL5 ⟨⟨false, false, 0, 0⟩, rm, []⟩ = (0, some sj0, ⟨⟨false, false, 0, 0⟩, rm, []⟩) := by kernel_rfl
theorem bG3 (A : Option Addr) (acs : List aX4) (c : Nat) (lo ln lm : Int) (Bl : Option Addr) (lr : List aD8) (lc : Nat) (v4 v5 v6 : Value) (n part : Int) (B : Option Addr) (z : List Int) (cz : Nat) (w : World) (K4 : cC4 w A acs c) (N4 : -9223372036854775808 <= ln ∧ ln <= 9223372036854775807) (Q7 : -9223372036854775808 <= lm ∧ lm <= 9223372036854775807) (I3 : bV8 w Bl lr lc) (hn : -9223372036854775808 <= n ∧ n <= 9223372036854775807) (Q8 : -9223372036854775808 <= part ∧ part <= 9223372036854775807) (hz : cH2 w B z cz) (R6 : (acs.map aX4.wt).sum + aV0 lr <= 1048576) (hF : bG1 w) :
  Calls Tryz.prog 4 #[.slice A acs.length c, .agg #[.int .i64 lo, .int .i64 ln, .int .i64 lm, .slice Bl lr.length lc, v4, v5, v6], .int .i64 n, .int .i64 part, .slice B z.length cz] w fun e w' => e = .returned (.bool true) ∧ Below w.heap.size w w' := by
 obtain ⟨W0, G5⟩ : ∃ W, W = w.alloc (.cells #[.int .i64 lo, .int .i64 ln, .int .i64 lm, .slice Bl lr.length lc, v4, v5, v6] 43) := ⟨_, rfl⟩
 have K3 : Below w.heap.size w W0 := by rw [G5]; exact (lS _ w).alloc (lR _) _
 have G2 : Blk W0 w.heap.size 43 #[.int .i64 lo, .int .i64 ln, .int .i64 lm, .slice Bl lr.length lc, v4, v5, v6] := by rw [G5]; exact Blk.new w _ _
 have V8 : W0.heap.size = w.heap.size + 1 := by rw [G5]; simp
 have m2 : Hid (∀ W, Below W0.heap.size W0 W -> W.cell? ⟨w.heap.size, 0, none⟩ = some (.int .i64 lo) ∧ W.cell? ⟨w.heap.size, 1, none⟩ = some (.int .i64 ln) ∧ W.cell? ⟨w.heap.size, 2, none⟩ = some (.int .i64 lm) ∧ W.cell? ⟨w.heap.size, 3, none⟩ = some (.slice Bl lr.length lc)) := qZ (fun W hb => ⟨(hb.cell (p := ⟨w.heap.size, 0, none⟩) (by show w.heap.size < _; omega)).trans (G2.cell 0), (hb.cell (p := ⟨w.heap.size, 1, none⟩) (by show w.heap.size < _; omega)).trans (G2.cell 1), (hb.cell (p := ⟨w.heap.size, 2, none⟩) (by show w.heap.size < _; omega)).trans (G2.cell 2), (hb.cell (p := ⟨w.heap.size, 3, none⟩) (by show w.heap.size < _; omega)).trans (G2.cell 3)⟩);have O9 := qZ G5;have J6 := qZ K3;have O6 := qZ K4.rd;have E9 := qZ K4.ok;have L4 := K4.le;have q7 := qZ I3;have q8 := qZ (And.intro N4 Q7);have HZ := qZ hz;have L0 := qZ R6;have HF := qZ (hF.below K3);have O7 := qZ (cN7 W0 (hF.below K3));have S6 := qZ (And.intro hn Q8);have V7 : W0.heap.size <= W0.heap.size := lR _;clear K4 N4 Q7 I3 hn Q8 hz R6 hF G5 K3 G2;go_enter Tryz.func4, Tryz.ntmps4
 go_wp2_with fail
 rw [<- O9.out];refine O7.out.mono ?_;rintro e w0 ⟨rfl, L5⟩;have I8 := L5.size;have J4 := qZ L5;clear L5 O7 O9;go_wp2_with fail
 refine (cI6 1048576 (by omega) w0).mono ?_;rintro e w1 ⟨rfl, hD, L6⟩;obtain ⟨rm, R1⟩ : ∃ x : Int, x = max 1048576 0 := ⟨_, rfl⟩
 rw [<- R1] at hD;have N7 := L6.size;have J5 := qZ L6;have C2 := qZ (bA4 hD (L := 1000) ⟨by simp [aB7, aD2, sec], by simp [aD2, sec], fun q hq => by cases hq⟩ (by omega) N7 (fun w' hb => ⟨(HF.out.below (J4.out.trans ((J5.out.trans hb).mono I8))).tab, (HF.out.below (J4.out.trans ((J5.out.trans hb).mono I8))).err⟩));have he : aL5 (aD2 ⟨false, false, 0, 0⟩ rm []) = (0, some sj0, ⟨⟨false, false, 0, 0⟩, rm, []⟩) := dO0 rm;rw [he] at C2;clear L6 hD he R1;go_wp2_with fail
 refine C2.out.mono ?_;rintro e w2 ⟨es2, P4, P9, B4, M3, hm⟩;simp only at hm;obtain ⟨gj, F, rfl, T7, hJ, L2⟩ := hm;have Q1 : Below w0.heap.size w1 w2 := B4.below N7 (fun x hx => by
  rcases hx with h | h | ⟨q, hq, _⟩
  ·omega
  ·omega
  cases hq)
 have U3 := B4.size;have K0 : Hid (aP8 W0 w2 w0.heap.size (w0.heap.size + 1) w0.heap.size gj F 0 ⟨⟨false, false, 0, 0⟩, rm, []⟩ sj0 es2) := qZ ⟨⟨P4, P9, hJ, fun x hx => ⟨by have := (L2 x hx).1; omega, (L2 x hx).2⟩, by omega⟩, ri0, rb0, I8, by omega, J4.out.trans ((J5.out.trans Q1).mono I8), HF.out⟩;obtain ⟨bs, Q3⟩ : ∃ n, n = w0.heap.size := ⟨_, rfl⟩
 rw [<- Q3] at K0 ⊢;have T5 : W0.heap.size <= bs := by omega
 clear P4 P9 B4 M3 hJ L2 Q1 C2 I8 N7 U3 T7 J4 J5 Q3;go_upto_block 0 with fail
 go_cut [15] from 54 to 105 (fun _ wx => Hid (∃ k d j es F, k <= 60 ∧ aP8 W0 wx bs (bs + 1) bs gj F k d j es ∧ Good j d.fs))
 case first =>
  go_wp2_with fail
  go_loopw [15] (fun iv wr => ∃ (k : Nat), k <= acs.length ∧ iv = .int .i64 k ∧ k <= 60 ∧ Hid (∃ d j es F, aP8 W0 wr bs (bs + 1) bs gj F k d j es ∧ Good j d.fs)) (fun iv _ => acs.length - (intOf iv).toNat)
  case atStart => exact ⟨0, by omega, rfl, by omega, qZ ⟨_, _, _, _, K0.out, cM3⟩⟩
  obtain ⟨k, hk, rfl, I2, HK⟩ := hrel;clear K0;by_cases hlt : k < acs.length
  rotate_left
  ·go_wp2_with fail
   go_meet;obtain ⟨d, j, es, F, h1, h2⟩ := HK.out;exact qZ ⟨_, _, _, _, _, I2, h1, h2⟩
  by_cases h60 : k < 60
  ·obtain ⟨d, j, es, F, hR, hG⟩ := HK.out
   have z9 : Below w.heap.size w wr := J6.out.trans (hR.from_.mono (by omega));have HR := qZ hR;have HG := qZ hG;have C6 := E9.out _ (lX hlt);have R4 := dL8 (lX hlt);obtain ⟨ab, ao, rfl, _, T3, Q4⟩ := O6.out (by rw [bT4]; omega);have hq : ∀ j, (hj : j < 7) -> wr.cell? ⟨ab, ao + k * 7 + j, none⟩ = (acs[k].cs)[j]? := fun j hj => by
    obtain ⟨u, hu⟩ : ∃ u, (acs[k].cs)[j]? = some u := ⟨_, lW (show j < (acs[k].cs).length from hj)⟩
    rw [hu, Nat.add_assoc];exact (z9.cell (p := ⟨ab, _, none⟩) T3).trans (Q4 _ _ (by rw [cV6 acs hlt hj]; exact hu))
   obtain ⟨a, Q0⟩ : ∃ a, a = acs[k] := ⟨_, rfl⟩
   rw [<- Q0] at hq C6 R4;have q0 : wr.cell? ⟨ab, ao + k * 7, none⟩ = some (.int .i64 a.o) := hq 0 (by omega);have q1 : wr.cell? ⟨ab, ao + k * 7 + 1, none⟩ = some (.int .i64 a.n) := hq 1 (by omega);have q2 : wr.cell? ⟨ab, ao + k * 7 + 2, none⟩ = some (.int .i64 a.m) := hq 2 (by omega);have q3 : wr.cell? ⟨ab, ao + k * 7 + 3, none⟩ = some (.slice a.Al a.rs.length a.cl) := hq 3 (by omega);have a9 := qZ C6;have N8 : a.wt <= 1048576 := by have := L0.out; omega
   have f9 := qZ (And.intro q1 q2);have G9 := hR.bw;have T4 : ab < wr.heap.size := by have := z9.size; omega
   have D5 := qZ z9;clear hq C6 R4 Q0 Q4 q1 q2 HK hR hG;obtain ⟨C3, G6⟩ : ∃ x, x = a.o := ⟨_, rfl⟩
   rw [<- G6] at q0;by_cases h0 : C3 = 0
   ·have J2 : (a.rs.map fun q => q.e.b.length + 5).sum <= 1048576 := by
     have h1 := N8;unfold aX4.wt aV0 at h1;omega
    have g6 := qZ (bM2 HR.out (by omega) (E := fun x => x < w.heap.size) a.Al a.rs a.cl (a9.out.l.rd.keep D5.out.size (fun x hx => D5.out.block x hx)) (fun q hq => (a9.out.l.dat q hq).keep D5.out.size (fun x hx => D5.out.block x hx)) (fun x hx => by have := D5.out.size; omega) J2 a9.out.l.num);have D9 := qZ (cT6 HG.out HR.out.ri.calm (l := a.rs.map aD8.e) (fun e he => by obtain ⟨q, hq, rfl⟩ := List.mem_map.1 he; have h1 := a9.out.l.num q hq; exact ⟨h1.1.2, h1.2.1.2, h1.2.2.2⟩));subst h0;clear G6 z9 J2;go_wp2_with fail
    refine g6.out.mono ?_;rintro e w8 ⟨rfl, i2, _⟩;obtain ⟨P2, F8, i2⟩ := i2;have G0 := qZ i2;clear i2 g6 q0 q3;go_wp2_with fail
    go_roundw
    case rel => exact ⟨k + 1, by omega, by go_num, by omega, qZ ⟨_, _, _, _, G0.out, D9.out⟩⟩
    case measure => simp [intOf] <;> omega
   by_cases h1 : C3 = 1
   ·subst h1
    have g6 := qZ (bF8 (HR.out.below (lS _ wr).drew) (by omega) a.n a.m a9.out.n a9.out.m);have D9 := qZ (cT5 HG.out HR.out.ri.calm a9.out.n a9.out.m);clear G6 h0 q3 z9;go_upto_region 15 with fail
    refine wp_region_held_drew (S := fun W => W.cell? ⟨ab, ao + k * 7 + 1, none⟩ = some (.int .i64 a.n) ∧ W.cell? ⟨ab, ao + k * 7 + 2, none⟩ = some (.int .i64 a.m) ∧ True ∧ True) (by kernel_rfl) ⟨f9.out.1, f9.out.2, trivial, trivial⟩ (fun hHeld => ?_);refine aC4 0 (v := ?_) (by simp) (by kernel_rfl) (by kernel_rfl) (by kernel_rfl) (fun _ _ _ h => h) (Or.inl ⟨by rfl, ?_⟩) hHeld ?_
    case refine_2 => (intro w a7; (try dsimp only at a7); (try (obtain ⟨s0, s1, s2, s3⟩ := a7)); simp only [List.getElem_cons_zero]; go_simp <;> with_reducible rfl)
    simp only [List.getElem_cons_zero, Act.put, List.setIfInBounds_toArray, List.set_cons_zero, List.set_cons_succ];refine aC4 1 (v := ?_) (by simp) (by kernel_rfl) (by kernel_rfl) (by kernel_rfl) (fun _ _ _ h => h) (Or.inl ⟨by rfl, ?_⟩) hHeld ?_
    case refine_2 => (intro w a7; (try dsimp only at a7); (try (obtain ⟨s0, s1, s2, s3⟩ := a7)); simp only [List.getElem_cons_zero, List.getElem_cons_succ]; go_simp <;> with_reducible rfl)
    simp only [List.getElem_cons_zero, List.getElem_cons_succ, Act.put, List.setIfInBounds_toArray, List.set_cons_zero, List.set_cons_succ];refine aC4 2 (v := ?_) (by simp) (by kernel_rfl) (by kernel_rfl) (by kernel_rfl) (fun _ _ _ h => h) (Or.inl ⟨by rfl, ?_⟩) hHeld ?_
    case refine_2 => (intro w a7; (try dsimp only at a7); (try (obtain ⟨s0, s1, s2, s3⟩ := a7)); simp only [List.getElem_cons_zero, List.getElem_cons_succ]; go_simp <;> with_reducible rfl)
    simp only [List.getElem_cons_zero, List.getElem_cons_succ, Act.put, List.setIfInBounds_toArray, List.set_cons_zero, List.set_cons_succ];refine aC4 3 (v := ?_) (by simp) (by kernel_rfl) (by kernel_rfl) (by kernel_rfl) (fun _ _ _ h => h) (Or.inl ⟨by rfl, ?_⟩) hHeld ?_
    case refine_2 => (intro w a7; (try dsimp only at a7); (try (obtain ⟨s0, s1, s2, s3⟩ := a7)); simp only [List.getElem_cons_zero, List.getElem_cons_succ]; go_simp <;> with_reducible rfl)
    simp only [List.getElem_cons_zero, List.getElem_cons_succ, Act.put, List.setIfInBounds_toArray, List.set_cons_zero, List.set_cons_succ];refine aC4 4 (v := ?_) (by simp) (by kernel_rfl) (by kernel_rfl) (by kernel_rfl) (fun _ _ _ h => h) (Or.inl ⟨by rfl, ?_⟩) hHeld ?_
    case refine_2 => (intro w a7; (try dsimp only at a7); (try (obtain ⟨s0, s1, s2, s3⟩ := a7)); simp only [List.getElem_cons_zero, List.getElem_cons_succ]; go_simp <;> with_reducible rfl)
    simp only [List.getElem_cons_zero, List.getElem_cons_succ, Act.put, List.setIfInBounds_toArray, List.set_cons_zero, List.set_cons_succ];refine aC4 5 (v := ?_) (by simp) (by kernel_rfl) (by kernel_rfl) (by kernel_rfl) (fun _ _ _ h => h) (Or.inl ⟨by rfl, ?_⟩) hHeld ?_
    case refine_2 => (intro w a7; (try dsimp only at a7); (try (obtain ⟨s0, s1, s2, s3⟩ := a7)); simp only [List.getElem_cons_zero, List.getElem_cons_succ]; go_simp <;> with_reducible rfl)
    simp only [List.getElem_cons_zero, List.getElem_cons_succ, Act.put, List.setIfInBounds_toArray, List.set_cons_zero, List.set_cons_succ];refine aC4 6 (v := ?_) (by simp) (by kernel_rfl) (by kernel_rfl) (by kernel_rfl) (fun _ _ _ h => h) (Or.inl ⟨by rfl, ?_⟩) hHeld ?_
    case refine_2 => (intro w a7; (try dsimp only at a7); (try (obtain ⟨s0, s1, s2, s3⟩ := a7)); simp only [List.getElem_cons_zero, List.getElem_cons_succ]; go_simp <;> with_reducible rfl)
    simp only [List.getElem_cons_zero, List.getElem_cons_succ, Act.put, List.setIfInBounds_toArray, List.set_cons_zero, List.set_cons_succ];refine aC4 7 (v := ?_) (by simp) (by kernel_rfl) (by kernel_rfl) (by kernel_rfl) (fun _ _ _ h => h) (Or.inl ⟨by rfl, ?_⟩) hHeld ?_
    case refine_2 => (intro w a7; (try dsimp only at a7); (try (obtain ⟨s0, s1, s2, s3⟩ := a7)); simp only [List.getElem_cons_zero, List.getElem_cons_succ]; go_simp <;> with_reducible rfl)
    simp only [List.getElem_cons_zero, List.getElem_cons_succ, Act.put, List.setIfInBounds_toArray, List.set_cons_zero, List.set_cons_succ];refine aC4 8 (v := ?_) (by simp) (by kernel_rfl) (by kernel_rfl) (by kernel_rfl) (fun _ _ _ h => h) (Or.inl ⟨by rfl, ?_⟩) hHeld ?_
    case refine_2 => (intro w a7; (try dsimp only at a7); (try (obtain ⟨s0, s1, s2, s3⟩ := a7)); simp only [List.getElem_cons_zero, List.getElem_cons_succ]; go_simp <;> with_reducible rfl)
    simp only [List.getElem_cons_zero, List.getElem_cons_succ, Act.put, List.setIfInBounds_toArray, List.set_cons_zero, List.set_cons_succ];refine aC4 9 (v := ?_) (by simp) (by kernel_rfl) (by kernel_rfl) (by kernel_rfl) (fun _ _ _ h => h) (Or.inl ⟨by rfl, ?_⟩) hHeld ?_
    case refine_2 => (intro w a7; (try dsimp only at a7); (try (obtain ⟨s0, s1, s2, s3⟩ := a7)); simp only [List.getElem_cons_zero, List.getElem_cons_succ]; go_simp <;> with_reducible rfl)
    simp only [List.getElem_cons_zero, List.getElem_cons_succ, Act.put, List.setIfInBounds_toArray, List.set_cons_zero, List.set_cons_succ];refine aC4 10 (v := ?_) (by simp) (by kernel_rfl) (by kernel_rfl) (by kernel_rfl) (fun _ _ _ h => h) (Or.inl ⟨by rfl, ?_⟩) hHeld ?_
    case refine_2 => (intro w a7; (try dsimp only at a7); (try (obtain ⟨s0, s1, s2, s3⟩ := a7)); simp only [List.getElem_cons_zero, List.getElem_cons_succ]; go_simp <;> with_reducible rfl)
    simp only [List.getElem_cons_zero, List.getElem_cons_succ, Act.put, List.setIfInBounds_toArray, List.set_cons_zero, List.set_cons_succ];refine bY3 11 (by simp) (by kernel_rfl) (fun K hK => ?_);simp only [List.getElem_cons_zero, List.getElem_cons_succ];go_simp;refine g6.out.mono ?_;rintro e w8 ⟨rfl, i2, m0⟩;obtain ⟨P2, F8, i2⟩ := i2;have G0 := qZ i2;have l9 : Below bs wr.drew w8 := m0.below G9 (fun x hx => by
     rcases hx with hx | hx
     ·exact (HR.out.jn.disk.lt x hx).1
     rw [hx]; exact HR.out.jn.lo)
    have G4 : w8.cell? ⟨ab, ao + k * 7 + 1, none⟩ = some (.int .i64 a.n) ∧ w8.cell? ⟨ab, ao + k * 7 + 2, none⟩ = some (.int .i64 a.m) ∧ True ∧ True := ⟨(l9.cell (p := ⟨ab, _, none⟩) (show ab < bs by omega)).trans f9.out.1, (l9.cell (p := ⟨ab, _, none⟩) (show ab < bs by omega)).trans f9.out.2, trivial, trivial⟩;clear i2 m0 g6 l9;refine hK.out _ _ G4 (fun hHeld => ?_);clear hK K;try simp only [Act.put, List.setIfInBounds_toArray, List.set_cons_zero, List.set_cons_succ]
    refine wpAnyH_done (by kernel_rfl) ?_ _;clear hHeld G4;go_wp2_with fail
    go_roundw
    case rel => exact ⟨k + 1, by omega, by go_num, by omega, qZ ⟨_, _, _, _, G0.out, D9.out⟩⟩
    case measure => simp [intOf] <;> omega
   by_cases h2 : C3 = 2
   ·subst h2
    have g6 := qZ (cA0 (HR.out.below (lS _ wr).drew) (by omega) a.n a.m a9.out.n a9.out.m);have D9 := qZ (cT4 HG.out HR.out.ri.calm (ix := a.n) a9.out.m.2);clear G6 h0 h1 q3 z9;go_upto_region 17 with fail
    refine wp_region_held_drew (S := fun W => W.cell? ⟨ab, ao + k * 7 + 1, none⟩ = some (.int .i64 a.n) ∧ W.cell? ⟨ab, ao + k * 7 + 2, none⟩ = some (.int .i64 a.m) ∧ True ∧ True) (by kernel_rfl) ⟨f9.out.1, f9.out.2, trivial, trivial⟩ (fun hHeld => ?_);refine aC4 0 (v := ?_) (by simp) (by kernel_rfl) (by kernel_rfl) (by kernel_rfl) (fun _ _ _ h => h) (Or.inl ⟨by rfl, ?_⟩) hHeld ?_
    case refine_2 => (intro w a7; (try dsimp only at a7); (try (obtain ⟨s0, s1, s2, s3⟩ := a7)); simp only [List.getElem_cons_zero]; go_simp <;> with_reducible rfl)
    simp only [List.getElem_cons_zero, Act.put, List.setIfInBounds_toArray, List.set_cons_zero, List.set_cons_succ];refine aC4 1 (v := ?_) (by simp) (by kernel_rfl) (by kernel_rfl) (by kernel_rfl) (fun _ _ _ h => h) (Or.inl ⟨by rfl, ?_⟩) hHeld ?_
    case refine_2 => (intro w a7; (try dsimp only at a7); (try (obtain ⟨s0, s1, s2, s3⟩ := a7)); simp only [List.getElem_cons_zero, List.getElem_cons_succ]; go_simp <;> with_reducible rfl)
    simp only [List.getElem_cons_zero, List.getElem_cons_succ, Act.put, List.setIfInBounds_toArray, List.set_cons_zero, List.set_cons_succ];refine aC4 2 (v := ?_) (by simp) (by kernel_rfl) (by kernel_rfl) (by kernel_rfl) (fun _ _ _ h => h) (Or.inl ⟨by rfl, ?_⟩) hHeld ?_
    case refine_2 => (intro w a7; (try dsimp only at a7); (try (obtain ⟨s0, s1, s2, s3⟩ := a7)); simp only [List.getElem_cons_zero, List.getElem_cons_succ]; go_simp <;> with_reducible rfl)
    simp only [List.getElem_cons_zero, List.getElem_cons_succ, Act.put, List.setIfInBounds_toArray, List.set_cons_zero, List.set_cons_succ];refine aC4 3 (v := ?_) (by simp) (by kernel_rfl) (by kernel_rfl) (by kernel_rfl) (fun _ _ _ h => h) (Or.inl ⟨by rfl, ?_⟩) hHeld ?_
    case refine_2 => (intro w a7; (try dsimp only at a7); (try (obtain ⟨s0, s1, s2, s3⟩ := a7)); simp only [List.getElem_cons_zero, List.getElem_cons_succ]; go_simp <;> with_reducible rfl)
    simp only [List.getElem_cons_zero, List.getElem_cons_succ, Act.put, List.setIfInBounds_toArray, List.set_cons_zero, List.set_cons_succ];refine aC4 4 (v := ?_) (by simp) (by kernel_rfl) (by kernel_rfl) (by kernel_rfl) (fun _ _ _ h => h) (Or.inl ⟨by rfl, ?_⟩) hHeld ?_
    case refine_2 => (intro w a7; (try dsimp only at a7); (try (obtain ⟨s0, s1, s2, s3⟩ := a7)); simp only [List.getElem_cons_zero, List.getElem_cons_succ]; go_simp <;> with_reducible rfl)
    simp only [List.getElem_cons_zero, List.getElem_cons_succ, Act.put, List.setIfInBounds_toArray, List.set_cons_zero, List.set_cons_succ];refine aC4 5 (v := ?_) (by simp) (by kernel_rfl) (by kernel_rfl) (by kernel_rfl) (fun _ _ _ h => h) (Or.inl ⟨by rfl, ?_⟩) hHeld ?_
    case refine_2 => (intro w a7; (try dsimp only at a7); (try (obtain ⟨s0, s1, s2, s3⟩ := a7)); simp only [List.getElem_cons_zero, List.getElem_cons_succ]; go_simp <;> with_reducible rfl)
    simp only [List.getElem_cons_zero, List.getElem_cons_succ, Act.put, List.setIfInBounds_toArray, List.set_cons_zero, List.set_cons_succ];refine aC4 6 (v := ?_) (by simp) (by kernel_rfl) (by kernel_rfl) (by kernel_rfl) (fun _ _ _ h => h) (Or.inl ⟨by rfl, ?_⟩) hHeld ?_
    case refine_2 => (intro w a7; (try dsimp only at a7); (try (obtain ⟨s0, s1, s2, s3⟩ := a7)); simp only [List.getElem_cons_zero, List.getElem_cons_succ]; go_simp <;> with_reducible rfl)
    simp only [List.getElem_cons_zero, List.getElem_cons_succ, Act.put, List.setIfInBounds_toArray, List.set_cons_zero, List.set_cons_succ];refine aC4 7 (v := ?_) (by simp) (by kernel_rfl) (by kernel_rfl) (by kernel_rfl) (fun _ _ _ h => h) (Or.inl ⟨by rfl, ?_⟩) hHeld ?_
    case refine_2 => (intro w a7; (try dsimp only at a7); (try (obtain ⟨s0, s1, s2, s3⟩ := a7)); simp only [List.getElem_cons_zero, List.getElem_cons_succ]; go_simp <;> with_reducible rfl)
    simp only [List.getElem_cons_zero, List.getElem_cons_succ, Act.put, List.setIfInBounds_toArray, List.set_cons_zero, List.set_cons_succ];refine aC4 8 (v := ?_) (by simp) (by kernel_rfl) (by kernel_rfl) (by kernel_rfl) (fun _ _ _ h => h) (Or.inl ⟨by rfl, ?_⟩) hHeld ?_
    case refine_2 => (intro w a7; (try dsimp only at a7); (try (obtain ⟨s0, s1, s2, s3⟩ := a7)); simp only [List.getElem_cons_zero, List.getElem_cons_succ]; go_simp <;> with_reducible rfl)
    simp only [List.getElem_cons_zero, List.getElem_cons_succ, Act.put, List.setIfInBounds_toArray, List.set_cons_zero, List.set_cons_succ];refine aC4 9 (v := ?_) (by simp) (by kernel_rfl) (by kernel_rfl) (by kernel_rfl) (fun _ _ _ h => h) (Or.inl ⟨by rfl, ?_⟩) hHeld ?_
    case refine_2 => (intro w a7; (try dsimp only at a7); (try (obtain ⟨s0, s1, s2, s3⟩ := a7)); simp only [List.getElem_cons_zero, List.getElem_cons_succ]; go_simp <;> with_reducible rfl)
    simp only [List.getElem_cons_zero, List.getElem_cons_succ, Act.put, List.setIfInBounds_toArray, List.set_cons_zero, List.set_cons_succ];refine aC4 10 (v := ?_) (by simp) (by kernel_rfl) (by kernel_rfl) (by kernel_rfl) (fun _ _ _ h => h) (Or.inl ⟨by rfl, ?_⟩) hHeld ?_
    case refine_2 => (intro w a7; (try dsimp only at a7); (try (obtain ⟨s0, s1, s2, s3⟩ := a7)); simp only [List.getElem_cons_zero, List.getElem_cons_succ]; go_simp <;> with_reducible rfl)
    simp only [List.getElem_cons_zero, List.getElem_cons_succ, Act.put, List.setIfInBounds_toArray, List.set_cons_zero, List.set_cons_succ];refine bY3 11 (by simp) (by kernel_rfl) (fun K hK => ?_);simp only [List.getElem_cons_zero, List.getElem_cons_succ];go_simp;refine g6.out.mono ?_;rintro e w8 ⟨rfl, i2, m0⟩;obtain ⟨P2, F8, i2⟩ := i2;have G0 := qZ i2;have l9 : Below bs wr.drew w8 := m0.below G9 (fun x hx => by
     rcases hx with hx | hx
     ·exact (HR.out.jn.disk.lt x hx).1
     rw [hx]; exact HR.out.jn.lo)
    have G4 : w8.cell? ⟨ab, ao + k * 7 + 1, none⟩ = some (.int .i64 a.n) ∧ w8.cell? ⟨ab, ao + k * 7 + 2, none⟩ = some (.int .i64 a.m) ∧ True ∧ True := ⟨(l9.cell (p := ⟨ab, _, none⟩) (show ab < bs by omega)).trans f9.out.1, (l9.cell (p := ⟨ab, _, none⟩) (show ab < bs by omega)).trans f9.out.2, trivial, trivial⟩;clear i2 m0 g6 l9;refine hK.out _ _ G4 (fun hHeld => ?_);clear hK K;try simp only [Act.put, List.setIfInBounds_toArray, List.set_cons_zero, List.set_cons_succ]
    refine wpAnyH_done (by kernel_rfl) ?_ _;clear hHeld G4;go_wp2_with fail
    go_roundw
    case rel => exact ⟨k + 1, by omega, by go_num, by omega, qZ ⟨_, _, _, _, G0.out, D9.out⟩⟩
    case measure => simp [intOf] <;> omega
   have e0 : (C3 == 0) = false := beq_eq_false_iff_ne.2 h0;have e1 : (C3 == 1) = false := beq_eq_false_iff_ne.2 h1;have e2 : (C3 == 2) = false := beq_eq_false_iff_ne.2 h2;have S7 : Hid (∃ es' F', aP8 W0 wr bs (bs + 1) bs gj F' (k + 1) d j es') := qZ ⟨es, F, HR.out.jn, HR.out.ri, HR.out.rb.mono (by omega), HR.out.low, HR.out.bw, HR.out.from_, HR.out.facts⟩;clear G6 q3 z9;go_wp2_with fail
   go_roundw
   case rel => exact ⟨k + 1, by omega, by go_num, by omega, qZ (by obtain ⟨es', F', h⟩ := S7.out; exact ⟨_, _, _, _, h, HG.out⟩)⟩
   case measure => simp [intOf] <;> omega
  have U0 : k = 60 := by omega
  subst U0;go_wp2_with fail
  go_meet;obtain ⟨d, j, es, F, h1, h2⟩ := HK.out;exact qZ ⟨_, _, _, _, _, lR _, h1, h2⟩
 clear K0 O6 E9 L4;obtain ⟨k, d, j, es, F, I2, hR, hG⟩ := hcut.out;have HR := qZ hR;have HG := qZ hG;have P5 := cU2 hR.jn.jn (fun x hx => (hR.jn.apart x hx).2.1) (by have := hR.lastK.entsLen (by omega); omega);have p9 := qZ P5;clear hR hG P5 hcut;go_wp2_with fail
 refine p9.out.mono ?_;rintro e w6 ⟨A6, m3, c6, rfl, G3, L7⟩;have K8 := qZ (HR.out.lastK.below L7);have D1 := qZ (HR.out.lastK.aw L7);have x7 := qZ G3;have m5 := qZ K8.out.jn.jn.meta_;clear G3 L7 p9;go_wp2_with fail
 refine m5.out.mono ?_;rintro e w7 ⟨rfl, L8⟩;have K9 := qZ (K8.out.below L8);have D3 := qZ (D1.out.below L8);have m4 := qZ K9.out.jn.jn.base;clear L8 m5 K8 D1;go_wp2_with fail
 refine m4.out.mono ?_;rintro e w8 ⟨rfl, l9⟩;have O4 := qZ (K9.out.below l9);have t9 := qZ (D3.out.below l9);clear l9 m4 K9 D3;have D0 := qZ (dC9 O4.out (bits .and .i64 n 15) part (bd_i64 (wf_bits _ _ _ _)) S6.out.2);go_wp2_with fail
 refine D0.out.mono ?_;rintro e w9 ⟨⟨v9, rfl⟩, C4, Q5⟩;obtain ⟨R9, C0⟩ : ∃ p, p = d.pw.arm2 (bits .and .i64 n 15) part := ⟨_, rfl⟩
 rw [<- C0] at C4;have n6 : R9.off = false := by rw [C0]; exact HR.out.ri.calm.1
 obtain ⟨d9, B1⟩ : ∃ x : DkD, x = ⟨R9, d.room, d.fs⟩ := ⟨_, rfl⟩
 rw [<- B1] at C4;obtain ⟨R8, I5⟩ : ∃ n, n = wc.heap.size := ⟨_, rfl⟩
 rw [<- I5] at t9 x7;have g9 := qZ C4;have l6 := qZ (t9.out.to (es' := es) Q5.orJ (fun x hx => .inl hx));have d8 := HR.out.ri.pre HR.out.rb (by omega);have z7 : Hid (bS1 j d9) := qZ (by rw [B1]; exact ⟨d8.seg, d8.ks, d8.long, d8.ends, d8.sum⟩);have E8 : Hid (bN8 0 ln lm (lr.map aD8.e) j (aI9 j d9 (lr.map aD8.e))) := qZ (by rw [B1]; exact cO1 HG.out n6 (fun e he => by obtain ⟨q, hq, rfl⟩ := List.mem_map.1 he; have h1 := q7.out.num q hq; exact ⟨h1.1.2, h1.2.1.2, h1.2.2.2⟩));have E6 : Hid (bN8 1 ln lm (lr.map aD8.e) j (aE2 j d9 ln lm)) := qZ (by rw [B1]; exact cN9 HG.out n6 q8.out.1 q8.out.2);have E5 : Hid (bN8 2 ln lm (lr.map aD8.e) j (aF8 j d9 ln lm)) := qZ (by rw [B1]; exact cN8 HG.out n6 q8.out.2.2);have E7 : Hid (∀ o, bN8 o ln lm (lr.map aD8.e) j (0, j, d9)) := qZ (fun o => by rw [B1]; exact cO0 HG.out);have J9 := qZ (And.intro (HR.out.lastK.entsLen (by omega)) (And.intro (Good.base_nonneg HG.out.ch) (base_le HG.out.ch)));have N6 : aV0 lr <= 1048576 := by have := L0.out; omega
 have M0 : w.heap.size <= w9.heap.size := by have := C4.bw; omega
 have l0 := (m2.out w9 C4.from_).1;clear C4 Q5 C0 n6 B1 I5 d8 D0 t9 O4 HR HG L0;go_upto_block 3 with fail
 go_cut [21] from 131 to 154 (fun fv wx => ∃ r : Int × JnP × DkD, fv = .int .i64 r.1 ∧ Hid (bN8 lo ln lm (lr.map aD8.e) j r) ∧ Hid (∃ es' F', aK4 W0 wx bs (bs + 1) bs gj F' (k + 1) r.2.2 r.2.1 es' ∧ Aw R8 w6 wx (bs + 1) bs gj es'))
 case first =>
  by_cases h0 : lo = 0
  ·subst h0
   have G8 : Below w.heap.size w w9 := J6.out.trans (g9.out.from_.mono (by omega));have g6 := qZ (cW0 g9.out z7.out (by omega) (E := fun x => x < w.heap.size) Bl lr lc (q7.out.rd.keep G8.size (fun x hx => G8.block x hx)) (fun q hq => (q7.out.dat q hq).keep G8.size (fun x hx => G8.block x hx)) (fun x hx => by omega) N6 q7.out.num);have l3 := (m2.out w9 g9.out.from_).2.2.2;clear G8;go_wp2_with fail
   refine g6.out.mono ?_;rintro e S0 ⟨rfl, es', F', hL, t8, hg⟩;have HX := qZ (And.intro hL (l6.out.to t8 hg));clear hL t8 hg g6 l0 l3;go_wp2_with fail
   go_meet;exact ⟨_, rfl, E8, qZ ⟨_, _, HX.out.1, HX.out.2⟩⟩
  by_cases h1 : lo = 1
  ·subst h1
   have g6 := qZ (bZ1 g9.out (by omega) ln lm q8.out.1 q8.out.2);have l1 := (m2.out w9 g9.out.from_).2.1;have l2 := (m2.out w9 g9.out.from_).2.2.1;clear h0;go_wp2_with fail
   refine g6.out.mono ?_;rintro e S0 ⟨rfl, es', F', hL, t8, hg⟩;have HX := qZ (And.intro hL (l6.out.to t8 hg));clear hL t8 hg g6 l0 l1 l2;go_wp2_with fail
   go_meet;exact ⟨_, rfl, E6, qZ ⟨_, _, HX.out.1, HX.out.2⟩⟩
  by_cases h2 : lo = 2
  ·subst h2
   have g6 := qZ (bZ0 g9.out z7.out (by omega) ln lm q8.out.1 q8.out.2);have l1 := (m2.out w9 g9.out.from_).2.1;have l2 := (m2.out w9 g9.out.from_).2.2.1;clear h0 h1;go_wp2_with fail
   refine g6.out.mono ?_;rintro e S0 ⟨rfl, es', F', hL, t8, hg⟩;have HX := qZ (And.intro hL (l6.out.to t8 hg));clear hL t8 hg g6 l0 l1 l2;go_wp2_with fail
   go_meet;exact ⟨_, rfl, E5, qZ ⟨_, _, HX.out.1, HX.out.2⟩⟩
  have e0 : (lo == 0) = false := beq_eq_false_iff_ne.2 h0;have e1 : (lo == 1) = false := beq_eq_false_iff_ne.2 h1;have e2 : (lo == 2) = false := beq_eq_false_iff_ne.2 h2;have HX : Hid (aK4 W0 w9 bs (bs + 1) bs gj F (k + 1) d9 j es) := qZ ⟨g9.out.jn, g9.out.rb.mono (by omega), g9.out.low, g9.out.bw, g9.out.from_, g9.out.facts⟩;go_wp2_with fail
  go_meet;exact ⟨(0, j, d9), rfl, qZ (E7.out lo), qZ ⟨_, _, HX.out, l6.out⟩⟩
 clear l0 E8 E6 E5 E7 z7 g9 l6 M0;obtain ⟨⟨rc, j2, d2⟩, T0, O5, HX⟩ := hcut;subst T0;obtain ⟨es2, F2, P8, P3⟩ := HX.out;have HL := qZ (show aK4 W0 wc bs (bs + 1) bs gj F2 (k + 1) d2 j2 es2 from P8);have O1 := qZ P3;have p9 := qZ (cU2 HL.out.jn.jn (fun x hx => (HL.out.jn.apart x hx).2.1) (by have := HL.out.entsLen (by omega); omega));clear P8 P3 HX;go_wp2_with fail
 refine p9.out.mono ?_;rintro e U7 ⟨N9, J3, P0, rfl, q9, m6⟩;have y8 := qZ (HL.out.below m6);have p0 := qZ (O1.out.below m6);have j9 := qZ (HL.out.aw m6);have l7 := qZ q9;have m5 := qZ y8.out.jn.jn.meta_;have M2 := HL.out.entsLen (by omega);obtain ⟨U6, I4⟩ : ∃ n, n = wc.heap.size := ⟨_, rfl⟩
 rw [<- I4] at j9 l7;clear q9 m6 p9 HL O1 I4;go_wp2_with fail
 refine m5.out.mono ?_;rintro e S2 ⟨rfl, m7⟩;have y9 := qZ (y8.out.below m7);have p4 := qZ (p0.out.below m7);have n8 := qZ (j9.out.below m7);have s9 : Below w.heap.size w S2 := J6.out.trans (y9.out.from_.mono (by omega));have R7 : Rd S2 bs B (z.map (Value.int .i64)) := (HZ.out.rd.below s9).more (by omega);have O2 := qZ (cV8 y9.out (by omega) B z cz R7 HZ.out.wf (by have h1 := HZ.out.le; have h2 := HZ.out.cap; omega));clear m7 s9 R7 m5 y8 p0 j9;go_wp2_with fail
 refine O2.out.mono ?_;rintro e W9 ⟨⟨W7, rfl⟩, S8, z8, B2, B5⟩;have l8 := qZ z8;have p5 := qZ (p4.out.to B2.orJ B5);have n9 := qZ (n8.out.to B2.orJ B5);obtain ⟨jk, dk, C6, B8⟩ := O5.out z;have S5 := qZ B8;have C2 := qZ (cV9 z8 (by omega) C6);have Q6 : jk.ents.length <= 1099511627776 := cQ5.len B8 (by show j2.ents.length <= _; omega) (by have h1 := J9.out.1; have h2 := q7.out.le; have h3 := bA1 lr; unfold aV0 at N6; rw [lU]; omega);clear z8 B2 B5 B8 C6 O2 y9 p4 n8 O5 M2;go_wp2_with fail
 refine C2.out.mono ?_;rintro e S3 ⟨gk, FK, rfl, L3, L1, P7, P6, S9, m8, B6⟩;have p6 := qZ (p5.out.to m8.orJ B6);have o7 := qZ (n9.out.to m8.orJ B6);have J7 := qZ (And.intro P7 P6);have J8 := qZ (And.intro L3 L1);have x4 : Hid (Below W0.heap.size W0 S3) := qZ (l8.out.from_.trans ((m8.below l8.out.bw (fun x hx => (l8.out.jn.disk.lt x hx).1)).mono l8.out.low));have p9 := qZ (cU2 L3 L1 Q6);have I9 : W0.heap.size <= S3.heap.size := x4.out.size;clear L3 L1 P7 P6 m8 B6 Q6 C2 l8 p5 n9;go_wp2_with fail
 refine p9.out.mono ?_;rintro e U8 ⟨O0, C1, P1, rfl, r9, g7⟩;have q5 := qZ r9;have p7 := qZ (p6.out.below g7);have o8 := qZ (o7.out.below g7);have E1 := qZ (J7.out.1.below J7.out.2 g7);have x8 := qZ (fun x hx => Nat.lt_of_lt_of_le (J7.out.2 x hx) g7.size);have y7 := qZ (J8.out.1.below J8.out.2 g7);have D8 := qZ (fun x hx => Nat.lt_of_lt_of_le (J8.out.2 x hx) g7.size);have x5 := qZ (x4.out.trans (g7.mono I9));have J0 : W0.heap.size <= U8.heap.size := x5.out.size;obtain ⟨kt, N0⟩ : ∃ x, x = jk.term := ⟨_, rfl⟩
 obtain ⟨kv, N2⟩ : ∃ x, x = jk.vote := ⟨_, rfl⟩
 have m5 := qZ y7.out.meta_;rw [<- N0, <- N2] at m5;have f8 := qZ (And.intro N0 N2);clear r9 g7 N0 N2 p9 p6 o7 J7 J8 x4;go_wp2_with fail
 refine m5.out.mono ?_;rintro e U9 ⟨rfl, g8⟩;have q6 := qZ (q5.out.below g8);have p8 := qZ (p7.out.below g8);have o9 := qZ (o8.out.below g8);have E2 := qZ (E1.out.below x8.out g8);have D7 := qZ (fun x hx => Nat.lt_of_lt_of_le (x8.out x hx) g8.size);have E3 := qZ (y7.out.below D8.out g8);have x6 := qZ (x5.out.trans (g8.mono J0));have J1 : W0.heap.size <= U9.heap.size := x6.out.size;obtain ⟨kb, M7⟩ : ∃ x, x = jk.base.1 := ⟨_, rfl⟩
 obtain ⟨kc, M8⟩ : ∃ x, x = jk.base.2 := ⟨_, rfl⟩
 have m4 := qZ E3.out.base;rw [<- M7, <- M8] at m4;have j6 := qZ (And.intro M7 M8);clear g8 M7 M8 m5 p7 o8 E1 x8 y7 D8 x5 q5 J0 I9;go_wp2_with fail
 refine m4.out.mono ?_;rintro e e9 ⟨rfl, i6⟩;have i4 := qZ (q6.out.below i6);have l5 := qZ (p8.out.below i6);have l4 := qZ (o9.out.below i6);have K7 := qZ (E2.out.below D7.out i6);have i3 := qZ (x6.out.trans (i6.mono J1));have n7 : W0.heap.size <= e9.heap.size := i3.out.size;have D6 : Hid (ER e9 (fun x => R8 <= x ∧ x < w6.heap.size) A6 m3 c6 j.ents) := qZ (x7.out.keep l5.out.le (fun x hx => l5.out.st x hx));have K6 : Hid (ER e9 (fun x => U6 <= x ∧ x < U7.heap.size) N9 J3 P0 j2.ents) := qZ (l7.out.keep l4.out.le (fun x hx => l4.out.st x hx));have f7 : Hid (∀ W, Below e9.heap.size e9 W -> Below w.heap.size w W) := qZ (fun W hb => J6.out.trans ((i3.out.trans (hb.mono n7)).mono (by omega)));have N3 := m2.out e9 i3.out;obtain ⟨l0, l1, l2, l3⟩ := N3;have b8 := qZ (And.intro l1 (And.intro l2 l3));clear l1 l2 l3 i6 m4 p8 o9 E2 D7 E3 x6 q6 J1 l5 l4 x7 l7;have I0 : (rc ≠ 50 ∧ jk = j2) ∨ (rc = 50 ∧ ((lo = 1 ∧ jk.segs = j.segs ∧ ((jk.term = j.term ∧ jk.vote = j.vote) ∨ (jk.term = ln ∧ jk.vote = lm))) ∨ (lo = 0 ∧ ∃ e0 rr, lr.map aD8.e = e0 :: rr ∧ 0 < e0.ix ∧ aZ5 j (lr.map aD8.e) e0.ix jk) ∨ (lo = 2 ∧ (jk.term = j.term ∧ jk.vote = j.vote) ∧ j.base.1 <= ln ∧ ((∃ q : Nat, q <= j.ents.length ∧ (q : Int) = jk.base.1 - j.base.1 ∧ jk.ents = j.ents.drop q) ∨ (jk.ents = [] ∧ jk.base = (ln, lm)))))) := S5.out;rcases I0 with ⟨C8, M4⟩ | ⟨C8, ⟨h1, R3, B9⟩ | ⟨h0, e0, rr, B8, T8, C9⟩ | ⟨h2, B9, N4, T6⟩⟩
 ·have V1 : (rc != 50) = true := bne_iff_ne.2 C8
  have M6 : kt = j2.term ∧ kv = j2.vote ∧ kb = j2.base.1 ∧ kc = j2.base.2 := by rw [<- M4]; exact ⟨f8.out.1, f8.out.2, j6.out.1, j6.out.2⟩
  obtain ⟨k1, k2, k3, k4⟩ := M6;subst k1 k2 k3 k4;have O8 : Hid (∀ W, Below e9.heap.size e9 W -> Calls Tryz.prog 23 #[.slice O0 C1.length P1, .slice N9 J3.length P0] W fun e w' => e = .returned (.bool true) ∧ Below W.heap.size W w') := qZ (fun W hb => by
   have h := (i4.out.below hb).same (K6.out.below hb);rw [M4, aT3] at h;exact h)
  have m4 := qZ K7.out.base;clear b8 l0 C8 M4 f8 j6;go_wp2_with fail
  refine m4.out.mono ?_;rintro e j8 ⟨rfl, a8⟩;have i1 := qZ (O8.out j8 a8);have D4 := qZ a8;clear a8 m4 O8;go_wp2_with fail
  refine i1.out.mono ?_;rintro e V0 ⟨rfl, G7⟩;have HB := qZ (f7.out V0 (D4.out.trans (G7.mono D4.out.size)));clear G7 i1;go_wp2_with fail
  go_ret
  exact ⟨rfl, HB.out⟩
 ·subst C8 h1
  have t7 : jk.ents = j.ents := by unfold JnP.ents; rw [R3]
  have i1 := qZ (i4.out.same D6.out);rw [t7, aT3] at i1;have hm : (kt = j.term ∧ kv = j.vote) ∨ (kt = ln ∧ kv = lm) := by rw [f8.out.1, f8.out.2]; exact B9
  have HM := qZ hm;clear t7 R3 B9 hm;go_wp2_with fail
  refine i1.out.mono ?_;rintro e j8 ⟨rfl, a8⟩;have HB := qZ (f7.out j8 a8);obtain ⟨_, l1, l2, _⟩ := m2.out j8 (i3.out.trans (a8.mono n7));clear a8 i1 l0;rcases HM.out with ⟨ha, hb⟩ | ⟨ha, hb⟩
  ·subst ha hb
   clear l1 l2 f8 HM;go_wp2_with fail
   go_ret
   exact ⟨rfl, HB.out⟩
  subst ha hb;by_cases ht : kt = j.term
  ·have U4 : (kt == j.term) = true := beq_iff_eq.2 ht
   by_cases hv : kv = j.vote
   ·have U5 : (kv == j.vote) = true := beq_iff_eq.2 hv
    clear ht hv f8 HM;go_wp2_with fail
    go_ret
    exact ⟨rfl, HB.out⟩
   have U5 : (kv == j.vote) = false := beq_eq_false_iff_ne.2 hv;clear ht hv f8 HM;go_wp2_with fail
   go_ret
   exact ⟨rfl, HB.out⟩
  have U4 : (kt == j.term) = false := beq_eq_false_iff_ne.2 ht;clear ht f8 HM;go_wp2_with fail
  go_ret
  exact ⟨rfl, HB.out⟩
 ·subst C8 h0
  have M6 : kt = j.term ∧ kv = j.vote ∧ kb = j.base.1 ∧ kc = j.base.2 := by rw [f8.out.1, f8.out.2, j6.out.1, j6.out.2, C9.2.1]; exact ⟨C9.1.1, C9.1.2, rfl, rfl⟩
  obtain ⟨k1, k2, k3, k4⟩ := M6;subst k1 k2 k3 k4;have N5 : 0 < lr.length := by have h := congrArg List.length B8; rw [lU, mC] at h; omega
  have I6 : lr[0].e = e0 := by
   have h : (lr.map aD8.e)[0]? = some e0 := by rw [B8]; rfl
   rw [List.getElem?_map, lW N5] at h
   simpa using h
  obtain ⟨bb, bo, rfl, _, L9, Q2⟩ := q7.out.rd (by rw [aC0]; omega);have m9 := Q2 (0 * 4 + 0) _ (by rw [aE6 lr N5 (by omega)]; exact rfl);rw [I6] at m9;have B7 := (q7.out.num _ (lX N5)).1.2;rw [I6] at B7;obtain ⟨ix, I1⟩ : ∃ x, x = e0.ix := ⟨_, rfl⟩
  rw [<- I1] at m9 T8 B7 C9;obtain ⟨kp, M9⟩ : ∃ x, x = ix - 1 - j.base.1 := ⟨_, rfl⟩
  have T9 := J9.out.2;have V9 : IntKind.i64.wrap (ix - 1) = ix - 1 := mH _ (by omega);have W5 : IntKind.i64.wrap (ix - 1 - j.base.fst) = kp := by rw [mH _ (by omega)]; exact M9.symm
  have O3 : Hid (∀ W, Below e9.heap.size e9 W -> W.cell? ⟨w.heap.size, 3, none⟩ = some (.slice (some ⟨bb, bo, none⟩) lr.length lc) ∧ W.cell? ⟨bb, bo, none⟩ = some (.int .i64 ix) ∧ True ∧ True) := qZ (fun W hb => ⟨(m2.out W (i3.out.trans (hb.mono n7))).2.2.2, ((f7.out W hb).cell (p := ⟨bb, bo, none⟩) L9).trans m9, trivial, trivial⟩);have S4 : Hid (∀ W, Below e9.heap.size e9 W -> Calls Tryz.prog 24 #[.slice O0 C1.length P1, .slice A6 m3.length c6, .int .i64 kp, .slice (some ⟨bb, bo, none⟩) lr.length lc] W fun e w' => e = .returned (.bool true) ∧ Below W.heap.size W w') := qZ (fun W hb => (i4.out.below hb).keptTo (D6.out.below hb) ((q7.out.er N6).below (f7.out W hb)) (by omega) (by rw [M9]; exact aZ5.kept C9));have V6 : (0 : Int) < (lr.length : Int) := by omega
  have C5 : Hid (Below e9.heap.size e9 e9.drew) := qZ (lS _ e9).drew;clear B8 I6 Q2 m9 B7 I1 M9 C9 b8 f8 j6;go_upto_region 47 with fail
  refine wp_region_held_drew (S := fun W => W.cell? ⟨w.heap.size, 3, none⟩ = some (.slice (some ⟨bb, bo, none⟩) lr.length lc) ∧ W.cell? ⟨bb, bo, none⟩ = some (.int .i64 ix) ∧ True ∧ True) (by kernel_rfl) (O3.out _ C5.out) (fun hHeld => ?_);refine aC4 0 (v := ?_) (by simp) (by kernel_rfl) (by kernel_rfl) (by kernel_rfl) (fun _ _ _ h => h) (Or.inl ⟨by rfl, ?_⟩) hHeld ?_
  case refine_2 => (intro w a7; (try dsimp only at a7); (try (obtain ⟨s0, s1, s2, s3⟩ := a7)); simp only [List.getElem_cons_zero]; go_simp <;> with_reducible rfl)
  simp only [List.getElem_cons_zero, Act.put, List.setIfInBounds_toArray, List.set_cons_zero, List.set_cons_succ];refine aC4 1 (v := ?_) (by simp) (by kernel_rfl) (by kernel_rfl) (by kernel_rfl) (fun _ _ _ h => h) (Or.inl ⟨by rfl, ?_⟩) hHeld ?_
  case refine_2 => (intro w a7; (try dsimp only at a7); (try (obtain ⟨s0, s1, s2, s3⟩ := a7)); simp only [List.getElem_cons_zero, List.getElem_cons_succ]; go_simp <;> with_reducible rfl)
  simp only [List.getElem_cons_zero, List.getElem_cons_succ, Act.put, List.setIfInBounds_toArray, List.set_cons_zero, List.set_cons_succ];refine aC4 2 (v := ?_) (by simp) (by kernel_rfl) (by kernel_rfl) (by kernel_rfl) (fun _ _ _ h => h) (Or.inl ⟨by rfl, ?_⟩) hHeld ?_
  case refine_2 => (intro w a7; (try dsimp only at a7); (try (obtain ⟨s0, s1, s2, s3⟩ := a7)); simp only [List.getElem_cons_zero, List.getElem_cons_succ]; go_simp <;> with_reducible rfl)
  simp only [List.getElem_cons_zero, List.getElem_cons_succ, Act.put, List.setIfInBounds_toArray, List.set_cons_zero, List.set_cons_succ];refine aC4 3 (v := ?_) (by simp) (by kernel_rfl) (by kernel_rfl) (by kernel_rfl) (fun _ _ _ h => h) (Or.inl ⟨by rfl, ?_⟩) hHeld ?_
  case refine_2 => (intro w a7; (try dsimp only at a7); (try (obtain ⟨s0, s1, s2, s3⟩ := a7)); simp only [List.getElem_cons_zero, List.getElem_cons_succ]; go_simp <;> with_reducible rfl)
  simp only [List.getElem_cons_zero, List.getElem_cons_succ, Act.put, List.setIfInBounds_toArray, List.set_cons_zero, List.set_cons_succ];refine aC4 4 (v := ?_) (by simp) (by kernel_rfl) (by kernel_rfl) (by kernel_rfl) (fun _ _ _ h => h) (Or.inl ⟨by rfl, ?_⟩) hHeld ?_
  case refine_2 => (intro w a7; (try dsimp only at a7); (try (obtain ⟨s0, s1, s2, s3⟩ := a7)); simp only [List.getElem_cons_zero, List.getElem_cons_succ]; go_simp <;> with_reducible rfl)
  simp only [List.getElem_cons_zero, List.getElem_cons_succ, Act.put, List.setIfInBounds_toArray, List.set_cons_zero, List.set_cons_succ];refine aC4 5 (v := ?_) (by simp) (by kernel_rfl) (by kernel_rfl) (by kernel_rfl) (fun _ _ _ h => h) (Or.inl ⟨by rfl, ?_⟩) hHeld ?_
  case refine_2 => (intro w a7; (try dsimp only at a7); (try (obtain ⟨s0, s1, s2, s3⟩ := a7)); simp only [List.getElem_cons_zero, List.getElem_cons_succ]; go_simp <;> with_reducible rfl)
  simp only [List.getElem_cons_zero, List.getElem_cons_succ, Act.put, List.setIfInBounds_toArray, List.set_cons_zero, List.set_cons_succ];refine aC4 6 (v := ?_) (by simp) (by kernel_rfl) (by kernel_rfl) (by kernel_rfl) (fun _ _ _ h => h) (Or.inl ⟨by rfl, ?_⟩) hHeld ?_
  case refine_2 => (intro w a7; (try dsimp only at a7); (try (obtain ⟨s0, s1, s2, s3⟩ := a7)); simp only [List.getElem_cons_zero, List.getElem_cons_succ]; go_simp <;> with_reducible rfl)
  simp only [List.getElem_cons_zero, List.getElem_cons_succ, Act.put, List.setIfInBounds_toArray, List.set_cons_zero, List.set_cons_succ];refine aC4 7 (v := ?_) (by simp) (by kernel_rfl) (by kernel_rfl) (by kernel_rfl) (fun _ _ _ h => h) (Or.inl ⟨by rfl, ?_⟩) hHeld ?_
  case refine_2 => (intro w a7; (try dsimp only at a7); (try (obtain ⟨s0, s1, s2, s3⟩ := a7)); simp only [List.getElem_cons_zero, List.getElem_cons_succ]; go_simp <;> with_reducible rfl)
  simp only [List.getElem_cons_zero, List.getElem_cons_succ, Act.put, List.setIfInBounds_toArray, List.set_cons_zero, List.set_cons_succ];refine aC4 8 (v := ?_) (by simp) (by kernel_rfl) (by kernel_rfl) (by kernel_rfl) (fun _ _ _ h => h) (Or.inl ⟨by rfl, ?_⟩) hHeld ?_
  case refine_2 => (intro w a7; (try dsimp only at a7); (try (obtain ⟨s0, s1, s2, s3⟩ := a7)); simp only [List.getElem_cons_zero, List.getElem_cons_succ]; go_simp <;> with_reducible rfl)
  simp only [List.getElem_cons_zero, List.getElem_cons_succ, Act.put, List.setIfInBounds_toArray, List.set_cons_zero, List.set_cons_succ];refine aC4 9 (v := ?_) (by simp) (by kernel_rfl) (by kernel_rfl) (by kernel_rfl) (fun _ _ _ h => h) (Or.inl ⟨by rfl, ?_⟩) hHeld ?_
  case refine_2 => (intro w a7; (try dsimp only at a7); (try (obtain ⟨s0, s1, s2, s3⟩ := a7)); simp only [List.getElem_cons_zero, List.getElem_cons_succ]; go_simp <;> with_reducible rfl)
  simp only [List.getElem_cons_zero, List.getElem_cons_succ, Act.put, List.setIfInBounds_toArray, List.set_cons_zero, List.set_cons_succ];refine aC4 10 (v := ?_) (by simp) (by kernel_rfl) (by kernel_rfl) (by kernel_rfl) (fun _ _ _ h => h) (Or.inl ⟨by rfl, ?_⟩) hHeld ?_
  case refine_2 => (intro w a7; (try dsimp only at a7); (try (obtain ⟨s0, s1, s2, s3⟩ := a7)); simp only [List.getElem_cons_zero, List.getElem_cons_succ]; go_simp <;> with_reducible rfl)
  simp only [List.getElem_cons_zero, List.getElem_cons_succ, Act.put, List.setIfInBounds_toArray, List.set_cons_zero, List.set_cons_succ];refine aC4 11 (v := ?_) (by simp) (by kernel_rfl) (by kernel_rfl) (by kernel_rfl) (fun _ _ _ h => h) (Or.inl ⟨by rfl, ?_⟩) hHeld ?_
  case refine_2 => (intro w a7; (try dsimp only at a7); (try (obtain ⟨s0, s1, s2, s3⟩ := a7)); simp only [List.getElem_cons_zero, List.getElem_cons_succ]; go_simp <;> with_reducible rfl)
  simp only [List.getElem_cons_zero, List.getElem_cons_succ, Act.put, List.setIfInBounds_toArray, List.set_cons_zero, List.set_cons_succ];refine aC4 12 (v := ?_) (by simp) (by kernel_rfl) (by kernel_rfl) (by kernel_rfl) (fun _ _ _ h => h) (Or.inl ⟨by rfl, ?_⟩) hHeld ?_
  case refine_2 => (intro w a7; (try dsimp only at a7); (try (obtain ⟨s0, s1, s2, s3⟩ := a7)); simp only [List.getElem_cons_zero, List.getElem_cons_succ]; go_simp <;> with_reducible rfl)
  simp only [List.getElem_cons_zero, List.getElem_cons_succ, Act.put, List.setIfInBounds_toArray, List.set_cons_zero, List.set_cons_succ];refine aC4 13 (v := ?_) (by simp) (by kernel_rfl) (by kernel_rfl) (by kernel_rfl) (fun _ _ _ h => h) (Or.inl ⟨by rfl, ?_⟩) hHeld ?_
  case refine_2 => (intro w a7; (try dsimp only at a7); (try (obtain ⟨s0, s1, s2, s3⟩ := a7)); simp only [List.getElem_cons_zero, List.getElem_cons_succ]; go_simp <;> with_reducible rfl)
  simp only [List.getElem_cons_zero, List.getElem_cons_succ, Act.put, List.setIfInBounds_toArray, List.set_cons_zero, List.set_cons_succ];refine aC4 14 (v := ?_) (by simp) (by kernel_rfl) (by kernel_rfl) (by kernel_rfl) (fun _ _ _ h => h) (Or.inl ⟨by rfl, ?_⟩) hHeld ?_
  case refine_2 => (intro w a7; (try dsimp only at a7); (try (obtain ⟨s0, s1, s2, s3⟩ := a7)); simp only [List.getElem_cons_zero, List.getElem_cons_succ]; go_simp <;> with_reducible rfl)
  simp only [List.getElem_cons_zero, List.getElem_cons_succ, Act.put, List.setIfInBounds_toArray, List.set_cons_zero, List.set_cons_succ];refine aC4 15 (v := ?_) (by simp) (by kernel_rfl) (by kernel_rfl) (by kernel_rfl) (fun _ _ _ h => h) (Or.inl ⟨by rfl, ?_⟩) hHeld ?_
  case refine_2 => (intro w a7; (try dsimp only at a7); (try (obtain ⟨s0, s1, s2, s3⟩ := a7)); simp only [List.getElem_cons_zero, List.getElem_cons_succ]; go_simp <;> with_reducible rfl)
  simp only [List.getElem_cons_zero, List.getElem_cons_succ, Act.put, List.setIfInBounds_toArray, List.set_cons_zero, List.set_cons_succ];refine aC4 16 (v := ?_) (by simp) (by kernel_rfl) (by kernel_rfl) (by kernel_rfl) (fun _ _ _ h => h) (Or.inl ⟨by rfl, ?_⟩) hHeld ?_
  case refine_2 => (intro w a7; (try dsimp only at a7); (try (obtain ⟨s0, s1, s2, s3⟩ := a7)); simp only [List.getElem_cons_zero, List.getElem_cons_succ]; go_simp <;> with_reducible rfl)
  simp only [List.getElem_cons_zero, List.getElem_cons_succ, Act.put, List.setIfInBounds_toArray, List.set_cons_zero, List.set_cons_succ];refine aC4 17 (v := ?_) (by simp) (by kernel_rfl) (by kernel_rfl) (by kernel_rfl) (fun _ _ _ h => h) (Or.inl ⟨by rfl, ?_⟩) hHeld ?_
  case refine_2 => (intro w a7; (try dsimp only at a7); (try (obtain ⟨s0, s1, s2, s3⟩ := a7)); simp only [List.getElem_cons_zero, List.getElem_cons_succ]; go_simp <;> with_reducible rfl)
  simp only [List.getElem_cons_zero, List.getElem_cons_succ, Act.put, List.setIfInBounds_toArray, List.set_cons_zero, List.set_cons_succ];refine aC4 18 (v := ?_) (by simp) (by kernel_rfl) (by kernel_rfl) (by kernel_rfl) (fun _ _ _ h => h) (Or.inl ⟨by rfl, ?_⟩) hHeld ?_
  case refine_2 => (intro w a7; (try dsimp only at a7); (try (obtain ⟨s0, s1, s2, s3⟩ := a7)); simp only [List.getElem_cons_zero, List.getElem_cons_succ]; go_simp <;> with_reducible rfl)
  simp only [List.getElem_cons_zero, List.getElem_cons_succ, Act.put, List.setIfInBounds_toArray, List.set_cons_zero, List.set_cons_succ];refine aC4 19 (v := ?_) (by simp) (by kernel_rfl) (by kernel_rfl) (by kernel_rfl) (fun _ _ _ h => h) (Or.inl ⟨by rfl, ?_⟩) hHeld ?_
  case refine_2 => (intro w a7; (try dsimp only at a7); (try (obtain ⟨s0, s1, s2, s3⟩ := a7)); simp only [List.getElem_cons_zero, List.getElem_cons_succ]; go_simp <;> with_reducible rfl)
  simp only [List.getElem_cons_zero, List.getElem_cons_succ, Act.put, List.setIfInBounds_toArray, List.set_cons_zero, List.set_cons_succ];refine aC4 20 (v := ?_) (by simp) (by kernel_rfl) (by kernel_rfl) (by kernel_rfl) (fun _ _ _ h => h) (Or.inl ⟨by rfl, ?_⟩) hHeld ?_
  case refine_2 => (intro w a7; (try dsimp only at a7); (try (obtain ⟨s0, s1, s2, s3⟩ := a7)); simp only [List.getElem_cons_zero, List.getElem_cons_succ]; go_simp <;> with_reducible rfl)
  simp only [List.getElem_cons_zero, List.getElem_cons_succ, Act.put, List.setIfInBounds_toArray, List.set_cons_zero, List.set_cons_succ];refine aC4 21 (v := ?_) (by simp) (by kernel_rfl) (by kernel_rfl) (by kernel_rfl) (fun _ _ _ h => h) (Or.inl ⟨by rfl, ?_⟩) hHeld ?_
  case refine_2 => (intro w a7; (try dsimp only at a7); (try (obtain ⟨s0, s1, s2, s3⟩ := a7)); simp only [List.getElem_cons_zero, List.getElem_cons_succ]; go_simp <;> with_reducible rfl)
  simp only [List.getElem_cons_zero, List.getElem_cons_succ, Act.put, List.setIfInBounds_toArray, List.set_cons_zero, List.set_cons_succ];refine aC4 22 (v := ?_) (by simp) (by kernel_rfl) (by kernel_rfl) (by kernel_rfl) (fun _ _ _ h => h) (Or.inl ⟨by rfl, ?_⟩) hHeld ?_
  case refine_2 => (intro w a7; (try dsimp only at a7); (try (obtain ⟨s0, s1, s2, s3⟩ := a7)); simp only [List.getElem_cons_zero, List.getElem_cons_succ]; go_simp <;> with_reducible rfl)
  simp only [List.getElem_cons_zero, List.getElem_cons_succ, Act.put, List.setIfInBounds_toArray, List.set_cons_zero, List.set_cons_succ];refine aC4 23 (v := ?_) (by simp) (by kernel_rfl) (by kernel_rfl) (by kernel_rfl) (fun _ _ _ h => h) (Or.inl ⟨by rfl, ?_⟩) hHeld ?_
  case refine_2 => (intro w a7; (try dsimp only at a7); (try (obtain ⟨s0, s1, s2, s3⟩ := a7)); simp only [List.getElem_cons_zero, List.getElem_cons_succ]; go_simp <;> with_reducible rfl)
  simp only [List.getElem_cons_zero, List.getElem_cons_succ, Act.put, List.setIfInBounds_toArray, List.set_cons_zero, List.set_cons_succ];refine aC4 24 (v := ?_) (by simp) (by kernel_rfl) (by kernel_rfl) (by kernel_rfl) (fun _ _ _ h => h) (Or.inl ⟨by rfl, ?_⟩) hHeld ?_
  case refine_2 => (intro w a7; (try dsimp only at a7); (try (obtain ⟨s0, s1, s2, s3⟩ := a7)); simp only [List.getElem_cons_zero, List.getElem_cons_succ]; go_simp <;> with_reducible rfl)
  simp only [List.getElem_cons_zero, List.getElem_cons_succ, Act.put, List.setIfInBounds_toArray, List.set_cons_zero, List.set_cons_succ];refine aC4 25 (v := ?_) (by simp) (by kernel_rfl) (by kernel_rfl) (by kernel_rfl) (fun _ _ _ h => h) (Or.inl ⟨by rfl, ?_⟩) hHeld ?_
  case refine_2 => (intro w a7; (try dsimp only at a7); (try (obtain ⟨s0, s1, s2, s3⟩ := a7)); simp only [List.getElem_cons_zero, List.getElem_cons_succ]; go_simp <;> with_reducible rfl)
  simp only [List.getElem_cons_zero, List.getElem_cons_succ, Act.put, List.setIfInBounds_toArray, List.set_cons_zero, List.set_cons_succ];refine aC4 26 (v := ?_) (by simp) (by kernel_rfl) (by kernel_rfl) (by kernel_rfl) (fun _ _ _ h => h) (Or.inl ⟨by rfl, ?_⟩) hHeld ?_
  case refine_2 => (intro w a7; (try dsimp only at a7); (try (obtain ⟨s0, s1, s2, s3⟩ := a7)); simp only [List.getElem_cons_zero, List.getElem_cons_succ]; go_simp <;> with_reducible rfl)
  simp only [List.getElem_cons_zero, List.getElem_cons_succ, Act.put, List.setIfInBounds_toArray, List.set_cons_zero, List.set_cons_succ];refine aC4 27 (v := ?_) (by simp) (by kernel_rfl) (by kernel_rfl) (by kernel_rfl) (fun _ _ _ h => h) (Or.inl ⟨by rfl, ?_⟩) hHeld ?_
  case refine_2 => (intro w a7; (try dsimp only at a7); (try (obtain ⟨s0, s1, s2, s3⟩ := a7)); simp only [List.getElem_cons_zero, List.getElem_cons_succ]; go_simp <;> with_reducible rfl)
  simp only [List.getElem_cons_zero, List.getElem_cons_succ, Act.put, List.setIfInBounds_toArray, List.set_cons_zero, List.set_cons_succ];refine aC4 28 (v := ?_) (by simp) (by kernel_rfl) (by kernel_rfl) (by kernel_rfl) (fun _ _ _ h => h) (Or.inl ⟨by rfl, ?_⟩) hHeld ?_
  case refine_2 => (intro w a7; (try dsimp only at a7); (try (obtain ⟨s0, s1, s2, s3⟩ := a7)); simp only [List.getElem_cons_zero, List.getElem_cons_succ]; go_simp <;> with_reducible rfl)
  simp only [List.getElem_cons_zero, List.getElem_cons_succ, Act.put, List.setIfInBounds_toArray, List.set_cons_zero, List.set_cons_succ];refine aC4 29 (v := ?_) (by simp) (by kernel_rfl) (by kernel_rfl) (by kernel_rfl) (fun _ _ _ h => h) (Or.inl ⟨by rfl, ?_⟩) hHeld ?_
  case refine_2 => (intro w a7; (try dsimp only at a7); (try (obtain ⟨s0, s1, s2, s3⟩ := a7)); simp only [List.getElem_cons_zero, List.getElem_cons_succ]; go_simp <;> with_reducible rfl)
  simp only [List.getElem_cons_zero, List.getElem_cons_succ, Act.put, List.setIfInBounds_toArray, List.set_cons_zero, List.set_cons_succ];refine aC4 30 (v := ?_) (by simp) (by kernel_rfl) (by kernel_rfl) (by kernel_rfl) (fun _ _ _ h => h) (Or.inl ⟨by rfl, ?_⟩) hHeld ?_
  case refine_2 => (intro w a7; (try dsimp only at a7); (try (obtain ⟨s0, s1, s2, s3⟩ := a7)); simp only [List.getElem_cons_zero, List.getElem_cons_succ]; go_simp <;> with_reducible rfl)
  simp only [List.getElem_cons_zero, List.getElem_cons_succ, Act.put, List.setIfInBounds_toArray, List.set_cons_zero, List.set_cons_succ];refine aC4 31 (v := ?_) (by simp) (by kernel_rfl) (by kernel_rfl) (by kernel_rfl) (fun _ _ _ h => h) (Or.inl ⟨by rfl, ?_⟩) hHeld ?_
  case refine_2 => (intro w a7; (try dsimp only at a7); (try (obtain ⟨s0, s1, s2, s3⟩ := a7)); simp only [List.getElem_cons_zero, List.getElem_cons_succ]; go_simp <;> with_reducible rfl)
  simp only [List.getElem_cons_zero, List.getElem_cons_succ, Act.put, List.setIfInBounds_toArray, List.set_cons_zero, List.set_cons_succ];refine aC4 32 (v := ?_) (by simp) (by kernel_rfl) (by kernel_rfl) (by kernel_rfl) (fun _ _ _ h => h) (Or.inl ⟨by rfl, ?_⟩) hHeld ?_
  case refine_2 => (intro w a7; (try dsimp only at a7); (try (obtain ⟨s0, s1, s2, s3⟩ := a7)); simp only [List.getElem_cons_zero, List.getElem_cons_succ]; go_simp <;> with_reducible rfl)
  simp only [List.getElem_cons_zero, List.getElem_cons_succ, Act.put, List.setIfInBounds_toArray, List.set_cons_zero, List.set_cons_succ];refine aC4 33 (v := ?_) (by simp) (by kernel_rfl) (by kernel_rfl) (by kernel_rfl) (fun _ _ _ h => h) (Or.inl ⟨by rfl, ?_⟩) hHeld ?_
  case refine_2 => (intro w a7; (try dsimp only at a7); (try (obtain ⟨s0, s1, s2, s3⟩ := a7)); simp only [List.getElem_cons_zero, List.getElem_cons_succ]; go_simp <;> with_reducible rfl)
  simp only [List.getElem_cons_zero, List.getElem_cons_succ, Act.put, List.setIfInBounds_toArray, List.set_cons_zero, List.set_cons_succ];refine aC4 34 (v := ?_) (by simp) (by kernel_rfl) (by kernel_rfl) (by kernel_rfl) (fun _ _ _ h => h) (Or.inl ⟨by rfl, ?_⟩) hHeld ?_
  case refine_2 => (intro w a7; (try dsimp only at a7); (try (obtain ⟨s0, s1, s2, s3⟩ := a7)); simp only [List.getElem_cons_zero, List.getElem_cons_succ]; go_simp <;> with_reducible rfl)
  simp only [List.getElem_cons_zero, List.getElem_cons_succ, Act.put, List.setIfInBounds_toArray, List.set_cons_zero, List.set_cons_succ];refine bY3 35 (by simp) (by kernel_rfl) (fun K hK => ?_);simp only [List.getElem_cons_zero, List.getElem_cons_succ];go_simp;refine (S4.out _ C5.out).mono ?_;rintro e j8 ⟨rfl, a8⟩;have HB := qZ (f7.out j8 (C5.out.trans (a8.mono C5.out.size)));refine hK.out _ _ (O3.out j8 (C5.out.trans (a8.mono C5.out.size))) (fun hHeld => ?_);clear hK K a8;try simp only [Act.put, List.setIfInBounds_toArray, List.set_cons_zero, List.set_cons_succ]
  refine aC4 36 (v := ?_) (by simp) (by kernel_rfl) (by kernel_rfl) (by kernel_rfl) (fun _ _ _ h => h) (Or.inl ⟨by rfl, ?_⟩) hHeld ?_
  case refine_2 => (intro w a7; (try dsimp only at a7); (try (obtain ⟨s0, s1, s2, s3⟩ := a7)); simp only [List.getElem_cons_zero, List.getElem_cons_succ]; go_simp <;> with_reducible rfl)
  simp only [List.getElem_cons_zero, List.getElem_cons_succ, Act.put, List.setIfInBounds_toArray, List.set_cons_zero, List.set_cons_succ];refine aC4 37 (v := ?_) (by simp) (by kernel_rfl) (by kernel_rfl) (by kernel_rfl) (fun _ _ _ h => h) (Or.inl ⟨by rfl, ?_⟩) hHeld ?_
  case refine_2 => (intro w a7; (try dsimp only at a7); (try (obtain ⟨s0, s1, s2, s3⟩ := a7)); simp only [List.getElem_cons_zero, List.getElem_cons_succ]; go_simp <;> with_reducible rfl)
  simp only [List.getElem_cons_zero, List.getElem_cons_succ, Act.put, List.setIfInBounds_toArray, List.set_cons_zero, List.set_cons_succ];refine wpAnyH_done (by kernel_rfl) ?_ _;go_wp2_with fail
  go_ret
  exact ⟨rfl, HB.out⟩
 subst C8 h2;have M5 : kt = j.term ∧ kv = j.vote := by rw [f8.out.1, f8.out.2]; exact B9
 obtain ⟨k1, k2⟩ := M5;subst k1 k2;have T9 := J9.out.2;have M1 := D6.out.alen;have V4 := J9.out.1;have U1 := q8.out.1.2;rcases T6 with ⟨q, K5, C7, Q9⟩ | ⟨K5, C7⟩
 ·have R5 : IntKind.i64.wrap (kb - j.base.fst) = (q : Int) := by rw [j6.out.1, <- C7, mH _ (by omega)]
  have I6 : (0 : Int) <= (q : Int) := by omega
  have I7 : q <= m3.length := by omega
  have U2 : (q : Int) <= (m3.length : Int) := by omega
  have i1 := qZ (i4.out.same (D6.out.drop I7));rw [Q9, aT3, lZ] at i1;have hcut := fun W : World => aT2 (P := Tryz.prog) Tryz.underlying40 aI8 A6 m3.length c6 q I7 (q : Int) rfl W
  clear b8 f8 j6 C7 Q9 B9 M1;go_wp2_with fail
  refine i1.out.mono ?_;rintro e j8 ⟨rfl, a8⟩;have HB := qZ (f7.out j8 a8);clear a8 i1;go_wp2_with fail
  go_ret
  exact ⟨rfl, HB.out⟩
 have M5 : kb = ln ∧ kc = lm := by rw [j6.out.1, j6.out.2, C7]; exact ⟨rfl, rfl⟩
 obtain ⟨k3, k4⟩ := M5;subst k3 k4;have V5 : ((C1.length : Int) == 0) = true := by have h := i4.out.alen; rw [K5] at h; simp at h; rw [h]; rfl
 by_cases I3 : kb - j.base.1 <= m3.length
 rotate_left
 ·obtain ⟨f, hf⟩ : ∃ x, x = kb - j.base.1 := ⟨_, rfl⟩
  have R5 : IntKind.i64.wrap (kb - j.base.fst) = f := by rw [<- hf, mH _ (by omega)]
  have V2 : (0 : Int) <= f := by omega
  have V3 : ¬ f <= (m3.length : Int) := by omega
  obtain ⟨l1, l2, l3⟩ := b8.out;have HB := qZ (f7.out e9 (lS _ e9));clear b8 f8 j6 K5 C7 hf B9 M1 I3 l3;go_wp2_with fail
  go_ret
  exact ⟨rfl, HB.out⟩
 obtain ⟨q, hq⟩ : ∃ q : Nat, (q : Int) = kb - j.base.1 := ⟨(kb - j.base.1).toNat, by omega⟩
 have R5 : IntKind.i64.wrap (kb - j.base.fst) = (q : Int) := by rw [<- hq, mH _ (by omega)]
 have I6 : (0 : Int) <= (q : Int) := by omega
 have I7 : q <= m3.length := by omega
 have U2 : (q : Int) <= (m3.length : Int) := by omega
 have i1 := qZ (i4.out.same (D6.out.drop I7));rw [lZ] at i1;obtain ⟨b, hb⟩ : ∃ b, b = aP6 jk.ents (j.ents.drop q) := ⟨_, rfl⟩
 rw [<- hb] at i1;have hcut := fun W : World => aT2 (P := Tryz.prog) Tryz.underlying40 aI8 A6 m3.length c6 q I7 (q : Int) rfl W
 clear b8 f8 j6 K5 C7 hq B9 M1 hb I3;go_wp2_with fail
 refine i1.out.mono ?_;rintro e j8 ⟨rfl, a8⟩;have HB := qZ (f7.out j8 a8);obtain ⟨_, l1, l2, _⟩ := m2.out j8 (i3.out.trans (a8.mono n7));clear a8 i1 l0;cases b with
 | true =>
  clear l1 l2;go_wp2_with fail
  go_ret
  exact ⟨rfl, HB.out⟩
 | false =>
  go_wp2_with fail
  go_ret
  exact ⟨rfl, HB.out⟩
theorem journalLasts_facts (W : World) (h : laidMet Tryz.prog Rows.journalLastsUptoRow.laid W) : bG1 W := dB5 h
theorem journalLasts_walk (w : World) (ht : bG1 w) (A : Option Addr) (acs : List aX4) (c : Nat) (g : cC4 w A acs c) (la : aX4) (hla : la.Ok w) (n : Int) (hn : -9223372036854775808 <= n ∧ n <= 9223372036854775807) (part : Int) (hp : -9223372036854775808 <= part ∧ part <= 9223372036854775807) (B : Option Addr) (z : List Int) (cz : Nat) (hz : cH2 w B z cz) (hwt : (acs.map aX4.wt).sum + la.wt <= 1048576) :
  Calls Tryz.prog 4 #[.slice A acs.length c, .agg #[.int .i64 la.o, .int .i64 la.n, .int .i64 la.m, .slice la.Al la.rs.length la.cl, .slice la.Ak la.kz.length la.ck, .string la.nm, .slice la.Ab la.b.length la.cb], .int .i64 n, .int .i64 part, .slice B z.length cz] w fun e w' => e = .returned (.bool true) ∧ Below w.heap.size w w' :=
 bG3 A acs c la.o la.n la.m la.Al la.rs la.cl _ _ _ n part B z cz w g hla.n hla.m hla.l hn hp hz (Nat.le_trans (Nat.add_le_add_left (show aV0 la.rs <= la.wt by unfold aX4.wt; omega) _) hwt) ht
end
end Go.Proofs.YtgeofijddhflaaaGreatDoor
