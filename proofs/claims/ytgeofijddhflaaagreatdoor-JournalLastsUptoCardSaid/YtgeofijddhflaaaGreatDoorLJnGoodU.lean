/- A journal and its disk, in plain words: Save, done or cut off. No condition. -/
import Derived.Test.YtgeofijddhflaaaGreatDoorLJnSort
import Derived.Test.YtgeofijddhflaaaGreatDoorLDiskBoot
import Derived.Test.YtgeofijddhflaaaGreatDoorLJnMk
set_option linter.unusedVariables false
set_option linter.unusedSimpArgs false
set_option maxHeartbeats 8000000
set_option maxRecDepth 100000
namespace Go.Proofs.YtgeofijddhflaaaGreatDoor
section
open Go.RowKit Go.Maps Oct
theorem cU8 {w : World} {base g m : Nat} {p : PWD} {room : Int} {es : List (Nm × FE)} (h : aB0 w base g m p room es) (hl : es.length <= 1099511627776) (hn : ∀ q ∈ es, q.1.length <= 1000) (n8 : ∀ q ∈ es, q.2.f.b.length <= 1000000000) (p8 : p.off = false) (hE : dA1 w) :
    Calls Tryz.prog 50 #[.pointer (some ⟨g, 0, none⟩)] w fun e w' => Below w.heap.size w w' ∧ ∃ v, e = .returned (.tuple #[v, .bool (aX5 (aD2 p room es)).isSome]) ∧
      ∀ l, aX5 (aD2 p room es) = some l -> ∃ a8 : List aF7, w'.ownsRow w.heap.size 106 6 v a8.length (aJ7 a8) ∧ a8.map aF7.o = l ∧ ∀ q ∈ a8, aT9 w' w.heap.size q := by
  have C4 := qZ (bL5 h (by omega));have H := qZ h;have HE := qZ hE;have G8 := qZ hn;have t9 := qZ n8;have x8 := qZ p8;have I5 := qZ h.rising;clear h hE hn n8 p8;go_enter Tryz.func50, Tryz.ntmps50
  go_wp2_with fail
  refine C4.out.mono ?_;rintro e w1 ⟨v1, rfl, E5, z8⟩;obtain ⟨A1, c1, rfl, j6, l6, E1⟩ := E5.shape;rw [lU] at j6;rw [lU];have f8 := z8.size;have I4 := qZ E1;have a9 := qZ z8;clear E1 E5 z8 C4;go_upto_block 0 with fail
  go_cut [4] from 4 to 43 (fun v wx => ∃ a8 : List aF7, a8.length <= es.length ∧ Hid (wx.ownsRow w1.heap.size 106 6 v a8.length (aJ7 a8)) ∧ Hid (aC6 (sec FE.f es) = some (a8.map aF7.o)) ∧ Hid (∀ q ∈ a8, aT9 wx w1.heap.size q) ∧ Hid (Below w1.heap.size w1 wx))
  case first =>
   go_wp2_with fail
   go_loopw [17, 4, 6, 7, 8, 9, 10, 11] (fun i v _ _ _ _ _ _ wr => ∃ (k : Nat) (a8 : List aF7), k <= es.length ∧ i = .int .i64 k ∧ a8.length <= k ∧ Hid (wr.ownsRow w1.heap.size 106 6 v a8.length (aJ7 a8)) ∧ Hid (aC6 ((sec FE.f es).take k) = some (a8.map aF7.o)) ∧ Hid (∀ q ∈ a8, aT9 wr w1.heap.size q) ∧ Hid (Below w1.heap.size w1 wr)) (fun i _ _ _ _ _ _ _ _ => es.length - (intOf i).toNat)
   case atStart => exact ⟨0, [], by omega, rfl, lR _, qZ (World.ownsRow_nil _ _ _ _), qZ rfl, qZ (fun q hq => by cases hq), qZ (lS _ _)⟩
   obtain ⟨k, a8, hk, rfl, i2, HO, HL, HF, HB⟩ := hrel;have g8 := HB.out.size;obtain ⟨Av, cv, hv, hx⟩ := aC2 HO.out;subst hv;clear hx;by_cases hlt : k < es.length
   rotate_left
   · obtain rfl : k = es.length := by omega
     rw [List.take_of_length_le (by simp)] at HL;go_wp2_with fail
     go_meet;exact ⟨a8, i2, HO, HL, HF, HB⟩
   obtain ⟨ad, rfl, J9, z9⟩ := (I4.out.below HB.out).at_ (k := k) (by rw [lU]; exact hlt);rw [List.getElem_map] at z9;have o7 := lX hlt;obtain ⟨nm, p7⟩ : ∃ nm, nm = es[k].1 := ⟨_, rfl⟩
   obtain ⟨fb, n8⟩ : ∃ fb, fb = es[k].2.f.b := ⟨_, rfl⟩
   obtain ⟨kn, m0⟩ : ∃ kn, kn = bH8 nm := ⟨_, rfl⟩
   have K3 : fb.length <= 1000000000 := by rw [n8]; exact t9.out _ o7
   have K6 : nm.length <= 1000 := by rw [p7]; exact G8.out _ o7
   have D4 : 0 <= kn ∧ kn <= 999999999 := by rw [m0]; exact bQ0 nm
   have m5 : (sec FE.f es).take (k + 1) = (sec FE.f es).take k ++ [(nm, es[k].2.f)] := by
     rw [List.take_add_one, lW (by simpa using hlt), p7];unfold sec;rw [List.getElem_map]
     rfl
   have m4 : aC6 ((sec FE.f es).take (k + 1)) = if kn = 0 then some (a8.map aF7.o) else (aD0 kn fb).map fun s => a8.map aF7.o ++ [s] := by
     rw [m5, aX9, HL.out, m0, n8]
     rfl
   have q8 := qZ m4;have q5 : (aD2 p room es).read nm = (fb, 0) := by
     have B5 : aA9 nm (sec FE.f es) = some es[k].2.f := by
       rw [aJ4, p7, cH6 I5.out hlt]
       rfl
     unfold DkD.read;rw [if_neg (by rw [show (aD2 p room es).pw.off = p.off from rfl, x8.out]; simp)];rw [show (aD2 p room es).fs = sec FE.f es from rfl, B5, n8]
   have L1 : (str nm).size = nm.length := aP0 nm;have x5 := qZ (cE6 (str nm) (by omega) wr ((HE.out.below a9.out).below HB.out));rw [show (str nm).data.toList = nm from by simp [str], <- m0] at x5;have C0 := qZ ((H.out.below a9.out).below HB.out);rw [<- p7] at z9;have m9 := qZ q5;clear m4 q5 m5 o7 m0 n8 p7;go_wp2_with fail
   refine x5.out.mono ?_;rintro e w2 ⟨rfl, o9⟩;have g7 := o9.size;have t7 := qZ (C0.out.below o9);have l8 := qZ (HB.out.trans (o9.mono g8));have x6 := qZ (aL1 HO.out o9);have p0 := qZ (fun q hq => (HF.out q hq).below o9);clear o9 C0 HB HO HF x5 z9;by_cases h0 : kn = 0
   · subst h0
     have n6 := qZ (q8.out.trans (if_pos rfl));clear q8 m9 t7;go_wp2_with fail
     go_roundw
     case rel => exact ⟨k + 1, a8, by omega, by go_num, by omega, x6, n6, p0, l8⟩
     case measure => simp [intOf]; omega
   have n6 := qZ (q8.out.trans (if_neg h0));clear q8;have y8 := qZ (bJ1 t7.out (str nm) (by omega) (fun q hq => by have := t9.out q hq; omega));rw [show (str nm).data.toList = nm from by simp [str], m9.out] at y8;clear t7 m9;go_wp2_with fail
   refine y8.out.mono ?_;rintro e w3 ⟨v3, rfl, E6, p6⟩;obtain ⟨A3, c3, rfl, q1, q2, q3⟩ := aD5 E6;have i3 := p6.size;have i4 := qZ (l8.out.trans (p6.mono (by have := l8.out.size; omega)));have C5 := qZ (aL1 x6.out p6);have C1 := qZ (fun q hq => (p0.out q hq).below p6);have C9 := qZ (cV0 kn (by omega) A3 fb c3 w3 (q3.more (by omega)) q1 (by omega) (by omega));clear p6 E6 q3 l8 x6 p0 y8;go_wp2_with fail
   refine C9.out.mono ?_;rintro e w4 ⟨r9, v4, rfl, ⟨a1, a2, a3, Al, nl, cl, Ae, ne, ce, tn, rfl⟩, hS⟩;have K7 := r9.size;have m6 := qZ (i4.out.trans (r9.mono (by have := i4.out.size; omega)));have x7 := qZ (aL1 C5.out r9);have t8 := qZ (fun q hq => (C1.out q hq).below r9);have y9 := qZ hS;clear hS i4 C5 C1 C9;rcases hrs : aD0 kn fb with _ | ⟨sg, G6⟩
   · rw [hrs] at n6
     have I6 := qZ hrs;clear hrs y9;have D5 : aX5 (aD2 p room es) = none := by
       have h1 := bO3 (r := (sec FE.f es).drop (k + 1)) n6.out;rw [List.take_append_drop] at h1;unfold aX5;rw [show (aD2 p room es).fs = sec FE.f es from rfl, h1]
     have f9 := qZ (a9.out.trans ((m6.out.trans ((lS _ w4).alloc (by have := m6.out.size; omega) (.cells #[.int .i64 a1, .int .i64 a2, .int .i64 a3, .slice Al nl cl, .slice Ae ne ce, .bool tn] 106))).mono f8));have C3 := qZ D5;clear D5 n6 m6 t8 x7;go_wp2_with fail
     go_ret2
     exact ⟨f9.out, _, by rw [C3.out]; rfl, fun l h => by rw [C3.out] at h; cases h⟩
   obtain ⟨G, rs, vl, ve, hG, q9, hv, E2, K9, L0, K4, K5⟩ := y9.out sg G6 hrs;injection hv with hv
   have e1 : Value.int .i64 a1 = .int .i64 sg.k := by have := congrArg (fun a : Array Value => a[0]?) hv; simpa using this
   have e2 : Value.int .i64 a2 = .int .i64 sg.first := by have := congrArg (fun a : Array Value => a[1]?) hv; simpa using this
   have e3 : Value.int .i64 a3 = .int .i64 sg.term := by have := congrArg (fun a : Array Value => a[2]?) hv; simpa using this
   have e4 : Value.slice Al nl cl = vl := by have := congrArg (fun a : Array Value => a[3]?) hv; simpa using this
   have e5 : Value.slice Ae ne ce = ve := by have := congrArg (fun a : Array Value => a[4]?) hv; simpa using this
   have e6 : Value.bool tn = .bool G6 := by have := congrArg (fun a : Array Value => a[5]?) hv; simpa using this
   injection e1 with _ e1
   injection e2 with _ e2
   injection e3 with _ e3
   injection e6 with e6
   subst e1 e2 e3 e4 e5 e6;have J6 := qZ E2;clear E2;obtain ⟨_, _, e7, _⟩ := aC2 q9.ents;injection e7 with x1 e7 x2
   subst x1 e7 x2;obtain ⟨_, _, e8, _⟩ := Own.shape q9.ends;injection e8 with x1 e8 x2
   rw [lU] at e8;subst x1 e8 x2;rw [hrs] at n6;have I7 := qZ q9;have I6 := qZ hrs;have J8 : w3.heap.size <= G := hG;clear hrs y9 q9 hv;obtain ⟨q, hq⟩ : ∃ q : aF7, q = ⟨sg, tn, Al, cl, Ae, ce, rs⟩ := ⟨_, rfl⟩
   have D9 : q.o = (sg, tn) := by rw [hq]; rfl
   have D7 : bA2 q = [.int .i64 sg.k, .int .i64 sg.first, .int .i64 sg.term, .slice Al rs.length cl, .slice Ae sg.ends.length ce, .bool tn] := by rw [hq]; rfl
   have D8 : aT9 w4 w1.heap.size q := by
     have h1 := aT9.of_sg (tn := tn) I7.out;rw [hq];exact h1.mono (by have := m6.out.size; omega)
   have I3 := qZ D9;have I2 := qZ D7;have C8 := qZ D8;clear hq D9 D7 D8;have n7 : Below w4.heap.size w4 ((w4.alloc (.cells #[.int .i64 sg.k, .int .i64 sg.first, .int .i64 sg.term, .slice Al rs.length cl, .slice Ae sg.ends.length ce, .bool tn] 106)).alloc (.cells #[.int .i64 sg.k, .int .i64 sg.first, .int .i64 sg.term, .slice Al rs.length cl, .slice Ae sg.ends.length ce, .bool tn] 106)) := ((lS _ w4).alloc (lR _) _).alloc (by simp) _;have J5 := qZ n7;have hC := (bW3 (Blk.new (w4.alloc (.cells #[.int .i64 sg.k, .int .i64 sg.first, .int .i64 sg.term, .slice Al rs.length cl, .slice Ae sg.ends.length ce, .bool tn] 106)) 106 #[.int .i64 sg.k, .int .i64 sg.first, .int .i64 sg.term, .slice Al rs.length cl, .slice Ae sg.ends.length ce, .bool tn]));rw [show (w4.alloc (.cells #[.int .i64 sg.k, .int .i64 sg.first, .int .i64 sg.term, .slice Al rs.length cl, .slice Ae sg.ends.length ce, .bool tn] 106)).heap.size = w4.heap.size + 1 from by simp] at hC;have HC := qZ hC;clear hC;have q7 := qZ (aL1 x7.out n7);have G7 := qZ (fun q hq => (t8.out q hq).below n7);have I1 := qZ (C8.out.below n7);have B8 := qZ (m6.out.trans (n7.mono (by have := m6.out.size; omega)));have K8 := n7.size;have J4 := B8.out.size;clear n7 x7 t8 C8 m6
   go_wp2_with (at_builtin; go_must (refine aQ9 rfl (.tmp 39) (.tmp 41) 100 rfl w1.heap.size 106 (.agg #[.int .i64 0, .int .i64 0, .int .i64 0, .slice none 0 0, .slice none 0 0, .bool false]) 6 80 Tryz.underlying100 cM7 rfl (by decide) _ a8.length (aJ7 a8) rfl q7.out ⟨w4.heap.size + 1, 0, none⟩ 1 1 _ rfl rfl HC.out (by simp [Value.oneCell']) (by unfold maxLen; omega) (by omega) (by omega) ?_; intro v6 w6 m2 D3 J2; have I0 := qZ m2; have x4 := qZ D3; clear m2 D3 J2))
   go_roundw
   case rel =>
     have I8 := Below.grown (lS w1.heap.size _) x4.out (by omega) (fun k hk => (World.ownsRow.lt q7.out k hk).1);refine ⟨k + 1, a8 ++ [q], by omega, by go_num, by simp; omega, qZ ?_, qZ ?_, qZ ?_, qZ (B8.out.trans I8)⟩
     · rw [lT, bS8]
       have := I0.out;rw [show aJ7 [q] = bA2 q from by simp [aJ7], I2.out];exact this
     · rw [n6.out, mE, mG, I3.out]
       rfl
     intro x hx;rcases List.mem_append.1 hx with hx | hx
     · exact (G7.out x hx).grown q7.out x4.out
     obtain rfl := List.mem_singleton.1 hx;exact I1.out.grown q7.out x4.out
   case measure => simp [intOf]; omega
  obtain ⟨a8, i2, HO, HL, HF, HB⟩ := hcut;have g8 := HB.out.size;obtain ⟨Av, cv, hv, hx⟩ := aC2 HO.out;subst hv;clear hx;have D0 := qZ (cV2 HO.out (by omega));go_wp2_with fail
  refine D0.out.mono ?_;rintro e w2 ⟨rfl, a7, p9, E3, o8, hg⟩;have n9 : a8.length = a7.length := p9.length_eq.symm;have D1 : aX5 (aD2 p room es) = if aK0 (a7.map aF7.o) = true then some (a7.map aF7.o) else none :=
    bQ6 (d := aD2 p room es) HL.out (p9.map _) (by rw [List.pairwise_map]; exact E3)
  have C2 := qZ D1;have p0 := qZ (fun q (hq : q ∈ a7) => (HF.out q (p9.mem_iff.1 hq)).grown HO.out hg);have l8 := qZ (Below.grown HB.out hg g8 (fun k hk => (World.ownsRow.lt HO.out k hk).1));have G9 := qZ (fun q (hq : q ∈ a7) => ((aQ5 HL.out (fun q hq => by
    obtain ⟨x, hx, rfl⟩ := List.mem_map.1 hq;exact t9.out x hx)).2 q.o (List.mem_map.2 ⟨q, p9.mem_iff.1 hq, rfl⟩)))
  have g7 := l8.out.size;rw [n9] at o8;have C7 := qZ o8;have hN : a7.length <= 1099511627776 := by omega
  rw [n9];clear D1 p9 E3 o8 hg HL HF HB HO D0 n9;go_wp2_with fail
  go_loopw [48, 12, 13] (fun i _ _ wr => ∃ k : Nat, k <= a7.length ∧ i = .int .i64 k ∧ Hid (∀ j (h : j < a7.length), j < k -> cW5 a7 j h) ∧ Hid (Below w2.heap.size w2 wr)) (fun i _ _ _ => a7.length - (intOf i).toNat)
  case atStart => exact ⟨0, by omega, rfl, qZ (fun j h h0 => by omega), qZ (lS _ _)⟩
  obtain ⟨k, hk, rfl, C6, i4⟩ := hrel;have i3 := i4.out.size;by_cases hlt : k < a7.length
  rotate_left
  · obtain rfl : k = a7.length := by omega
    have q6 : aX5 (aD2 p room es) = some (a7.map aF7.o) := by
      rw [C2.out, if_pos ((bZ3 a7).2 fun j h => C6.out j h h)]
    have HY := qZ q6;have s9 := qZ (a9.out.trans ((l8.out.trans (i4.out.mono g7)).mono f8));clear q6;go_wp2_with fail
    go_ret2
    refine ⟨s9.out, _, by rw [HY.out]; rfl, fun l h => ?_⟩;rw [HY.out] at h;injection h with h
    subst h;exact ⟨a7, bK0 (aL1 C7.out i4.out) f8, rfl, fun q hq => ((p0.out q hq).below i4.out).mono f8⟩
  obtain ⟨A, c, hv, j8, hc, h3⟩ := aC2 (aL1 C7.out i4.out);obtain ⟨gr, J7, rfl, l7, l4, j9, l5, l9⟩ := h3 (by omega);injection hv with hv hv2 hv'
  subst hv hv';clear hv2;have d8 : ∀ i (hi : i < a7.length) j, j < 6 -> (aJ7 a7)[i * 6 + j]? = (bA2 a7[i])[j]? := fun i hi j hj => bJ5 a7 hi hj
  have c0 : wr.cell? ⟨gr, k * 6, none⟩ = some (.int .i64 a7[k].s.k) := l9 _ _ (d8 k hlt 0 (by omega));have c1 : wr.cell? ⟨gr, k * 6 + 1, none⟩ = some (.int .i64 a7[k].s.first) := l9 _ _ (d8 k hlt 1 (by omega));have c2 : wr.cell? ⟨gr, k * 6 + 2, none⟩ = some (.int .i64 a7[k].s.term) := l9 _ _ (d8 k hlt 2 (by omega));have c3 : wr.cell? ⟨gr, k * 6 + 3, none⟩ = some (.slice a7[k].al a7[k].rs.length a7[k].cl) := l9 _ _ (d8 k hlt 3 (by omega));have c4 : wr.cell? ⟨gr, k * 6 + 4, none⟩ = some (.slice a7[k].ae a7[k].s.ends.length a7[k].ce) := l9 _ _ (d8 k hlt 4 (by omega));have c5 : wr.cell? ⟨gr, k * 6 + 5, none⟩ = some (.bool a7[k].tn) := l9 _ _ (d8 k hlt 5 (by omega));have m0 := G9.out a7[k] (lX hlt);have D4 : 1 <= a7[k].s.k ∧ a7[k].s.k <= 999999999 := m0.2.1;obtain ⟨ek, B4⟩ : ∃ x, x = a7[k].s.k := ⟨_, rfl⟩
  obtain ⟨tk, B7⟩ : ∃ x, x = a7[k].tn := ⟨_, rfl⟩
  obtain ⟨nk, B6⟩ : ∃ x, x = a7[k].s.ends.length := ⟨_, rfl⟩
  obtain ⟨B, hB⟩ : ∃ B : Bool, B = false ↔ cW5 a7 k hlt := by
    by_cases hh : cW5 a7 k hlt
    · exact ⟨false, by simp [hh]⟩
    exact ⟨true, by simp [hh]⟩
  have b8 := qZ hB;have g6 := qZ B4;have e9 := qZ B7;have i1 := qZ B6;obtain ⟨xf, G0⟩ : ∃ x, x = a7[k].s.first := ⟨_, rfl⟩
  obtain ⟨xt, G5⟩ : ∃ x, x = a7[k].s.term := ⟨_, rfl⟩
  obtain ⟨xl, G2⟩ : ∃ x, x = a7[k].al := ⟨_, rfl⟩
  obtain ⟨xn, G4⟩ : ∃ x, x = a7[k].rs.length := ⟨_, rfl⟩
  obtain ⟨xm, G3⟩ : ∃ x, x = a7[k].cl := ⟨_, rfl⟩
  obtain ⟨xa, E8⟩ : ∃ x, x = a7[k].ae := ⟨_, rfl⟩
  obtain ⟨xc, E9⟩ : ∃ x, x = a7[k].ce := ⟨_, rfl⟩
  rw [<- G0] at c1;rw [<- G5] at c2;rw [<- G2, <- G4, <- G3] at c3;rw [<- E8, <- E9] at c4;clear G0 G5 G2 G4 G3 E8 E9;rw [<- B4] at c0 D4;rw [<- B7] at c5;rw [<- B6] at c4;have i6 := qZ m0;have g9 := qZ l9;clear B4 B7 B6 hB m0 l9;go_upto_region 17 with fail
  have z7 : Below wr.heap.size wr (wr.alloc (.cells #[.int .i64 ek, .int .i64 xf, .int .i64 xt, .slice xl xn xm, .slice xa nk xc, .bool tk] 106)) := (lS _ wr).alloc (lR _) _;have p5 := Blk.new wr 106 #[.int .i64 ek, .int .i64 xf, .int .i64 xt, .slice xl xn xm, .slice xa nk xc, .bool tk];have f7 : nk = 0 ↔ a7[k].s.ends = [] := by rw [i1.out]; exact List.length_eq_zero_iff
  obtain ⟨wB, E7⟩ : ∃ W, W = wr.alloc (.cells #[.int .i64 ek, .int .i64 xf, .int .i64 xt, .slice xl xn xm, .slice xa nk xc, .bool tk] 106) := ⟨_, rfl⟩
  rw [<- E7] at z7 p5 ⊢;have b0 : wB.cell? ⟨wr.heap.size, 0, none⟩ = some (.int .i64 ek) := p5.cell 0;have b4 : wB.cell? ⟨wr.heap.size, 4, none⟩ = some (.slice xa nk xc) := p5.cell 4;have b5 : wB.cell? ⟨wr.heap.size, 5, none⟩ = some (.bool tk) := p5.cell 5;have f9 := qZ z7;clear E7 z7 p5;go_cut [86] from 53 to 86 (fun c wx => c = .bool B ∧ Hid (Below wr.heap.size wr wx))
  case first =>
    clear c0 c1 c2 c3 c4 c5;by_cases hk0 : 0 < k
    rotate_left
    · have J0 : decide (0 < k) = false := decide_eq_false hk0
      by_cases h1 : k + 1 < a7.length
      rotate_left
      · have hd : decide ((k : Int) < (a7.length : Int) - 1) = false := decide_eq_false (by omega)
        have a9 : Hid (B = false) := qZ (b8.out.2 ⟨fun h0 => absurd h0 hk0, fun h => absurd h h1⟩);clear f7 b8 d8 g9 g6 e9 i1 i6 h3 j9 l5 l4 l7 i3 g7 g8 i2 j6 l6 f8 hl hc j8;go_big_quiet (fail)
        go_wp2_with fail
        go_meet;exact ⟨by first | (rw [a9.out]; done) | (rw [a9.out]; rfl) | (rw [a9.out]; simpa using h4), qZ (aA4 f9.out _)⟩
      have hd : decide ((k : Int) < (a7.length : Int) - 1) = true := decide_eq_true (by omega);cases tk with
      | true =>
        have a9 : Hid (B = true) := qZ (by
          cases B with
          | true => rfl
          | false =>
            have := (b8.out.1 rfl).2 h1;rw [<- e9.out] at this;cases this.1)
        clear f7 b8 d8 g9 g6 e9 i1 i6 h3 j9 l5 l4 l7 i3 g7 g8 i2 j6 l6 f8 hl hc j8;go_big_quiet (fail)
        go_wp2_with fail
        go_meet;exact ⟨by first | (rw [a9.out]; done) | (rw [a9.out]; rfl) | (rw [a9.out]; simpa using h4), qZ (aA4 f9.out _)⟩
      | false =>
        by_cases h4 : nk = 0
        · have a9 : Hid (B = true) := qZ (by
            cases B with
            | true => rfl
            | false => exact absurd (f7.1 h4) ((b8.out.1 rfl).2 h1).2)
          clear f7 b8 d8 g9 g6 e9 i1 i6 h3 j9 l5 l4 l7 i3 g7 g8 i2 j6 l6 f8 hl hc j8;subst h4;go_big_quiet (fail)
          go_wp2_with fail
          go_meet;exact ⟨by first | (rw [a9.out]; done) | (rw [a9.out]; rfl) | (rw [a9.out]; simpa using h4), qZ (aA4 f9.out _)⟩
        have a9 : Hid (B = false) := qZ (b8.out.2 ⟨fun h0 => absurd h0 hk0, fun _ => ⟨e9.out.symm, fun h => h4 (f7.2 h)⟩⟩);clear f7 b8 d8 g9 g6 e9 i1 i6 h3 j9 l5 l4 l7 i3 g7 g8 i2 j6 l6 f8 hl hc j8;go_big_quiet (fail)
        go_wp2_with fail
        go_meet;exact ⟨by first | (rw [a9.out]; done) | (rw [a9.out]; rfl) | (rw [a9.out]; simpa using h4), qZ (aA4 f9.out _)⟩
    have J0 : decide (0 < k) = true := decide_eq_true hk0;obtain ⟨j, hj⟩ : ∃ j, k = j + 1 := ⟨k - 1, by omega⟩
    have J3 : j < a7.length := by omega
    have B1 : wr.cell? ⟨gr, j * 6, none⟩ = some (.int .i64 a7[j].s.k) := g9.out _ _ (d8 j J3 0 (by omega));have m3 : (a7[k - 1]'(by omega)).s.k = a7[j].s.k := by
      have e : k - 1 = j := by omega
      simp only [e]
    have m8 := qZ m3;obtain ⟨ej, B2⟩ : ∃ x, x = a7[j].s.k := ⟨_, rfl⟩
    have m7 := qZ B2;rw [<- B2] at B1;have K0 : wB.cell? ⟨gr, j * 6, none⟩ = some (.int .i64 ej) := (f9.out.cell (p := ⟨gr, j * 6, none⟩) l4).trans B1;clear B1 B2 m3;by_cases h2 : ej = ek - 1
    rotate_left
    · have a9 : Hid (B = true) := qZ (by
        cases B with
        | true => rfl
        | false =>
          have := (b8.out.1 rfl).1 hk0;rw [m8.out, <- m7.out, <- g6.out] at this;exact absurd this h2)
      have I9 : (ej != ek - 1) = true := bne_iff_ne.2 h2;clear f7 b8 d8 g9 g6 e9 i1 i6 h3 j9 l5 l4 l7 i3 g7 g8 i2 j6 l6 f8 hl hc j8 m8 m7;go_big_quiet (fail)
      go_wp2_with fail
      go_meet;exact ⟨by first | (rw [a9.out]; done) | (rw [a9.out]; rfl) | (rw [a9.out]; simpa using h4), qZ (aA4 f9.out _)⟩
    have H2 : Hid (∀ h0 : 0 < k, (a7[k - 1]'(by omega)).s.k = a7[k].s.k - 1) := qZ (fun h0 => by rw [m8.out, <- m7.out, <- g6.out]; exact h2);have I9 : (ej != ek - 1) = false := by rw [bne_eq_false_iff_eq]; exact h2
    clear h2;by_cases h1 : k + 1 < a7.length
    rotate_left
    · have hd : decide ((k : Int) < (a7.length : Int) - 1) = false := decide_eq_false (by omega)
      have J1 : decide ((j : Int) + 1 < (a7.length : Int) - 1) = false := decide_eq_false (by omega);have a9 : Hid (B = false) := qZ (b8.out.2 ⟨H2.out, fun h => absurd h h1⟩);clear f7 b8 d8 g9 g6 e9 i1 i6 h3 j9 l5 l4 l7 i3 g7 g8 i2 j6 l6 f8 hl hc j8 m8 m7 H2;go_big_quiet (fail)
      go_wp2_with fail
      go_meet;exact ⟨by first | (rw [a9.out]; done) | (rw [a9.out]; rfl) | (rw [a9.out]; simpa using h4), qZ (aA4 f9.out _)⟩
    have hd : decide ((k : Int) < (a7.length : Int) - 1) = true := decide_eq_true (by omega);have J1 : decide ((j : Int) + 1 < (a7.length : Int) - 1) = true := decide_eq_true (by omega);cases tk with
    | true =>
      have a9 : Hid (B = true) := qZ (by
        cases B with
        | true => rfl
        | false =>
          have := (b8.out.1 rfl).2 h1;rw [<- e9.out] at this;cases this.1)
      clear f7 b8 d8 g9 g6 e9 i1 i6 h3 j9 l5 l4 l7 i3 g7 g8 i2 j6 l6 f8 hl hc j8 m8 m7 H2;go_big_quiet (fail)
      go_wp2_with fail
      go_meet;exact ⟨by first | (rw [a9.out]; done) | (rw [a9.out]; rfl) | (rw [a9.out]; simpa using h4), qZ (aA4 f9.out _)⟩
    | false =>
      by_cases h4 : nk = 0
      · have a9 : Hid (B = true) := qZ (by
          cases B with
          | true => rfl
          | false => exact absurd (f7.1 h4) ((b8.out.1 rfl).2 h1).2)
        clear f7 b8 d8 g9 g6 e9 i1 i6 h3 j9 l5 l4 l7 i3 g7 g8 i2 j6 l6 f8 hl hc j8 m8 m7 H2;subst h4;go_big_quiet (fail)
        go_wp2_with fail
        go_meet;exact ⟨by first | (rw [a9.out]; done) | (rw [a9.out]; rfl) | (rw [a9.out]; simpa using h4), qZ (aA4 f9.out _)⟩
      have a9 : Hid (B = false) := qZ (b8.out.2 ⟨H2.out, fun _ => ⟨e9.out.symm, fun h => h4 (f7.2 h)⟩⟩);clear f7 b8 d8 g9 g6 e9 i1 i6 h3 j9 l5 l4 l7 i3 g7 g8 i2 j6 l6 f8 hl hc j8 m8 m7 H2;go_big_quiet (fail)
      go_wp2_with fail
      go_meet;exact ⟨by first | (rw [a9.out]; done) | (rw [a9.out]; rfl) | (rw [a9.out]; simpa using h4), qZ (aA4 f9.out _)⟩
  obtain ⟨rfl, HW⟩ := hcut;have B9 := qZ (i4.out.trans (HW.out.mono i3));clear c0 c1 c2 c3 c4 c5 b0 b4 b5 f9 f7 g6 e9 i1 i6 g9 h3 j9 l5 j8 hc d8;cases B with
  | true =>
    have D6 : aX5 (aD2 p room es) = none := by
      rw [C2.out, if_neg];intro h;have := b8.out.2 ((bZ3 a7).1 h k hlt);cases this
    have p4 := qZ D6;have s9 := qZ (a9.out.trans ((l8.out.trans (B9.out.mono g7)).mono f8));clear D6;go_wp2_with fail
    go_ret2
    exact ⟨s9.out, _, by rw [p4.out]; rfl, fun l h => by rw [p4.out] at h; cases h⟩
  | false =>
    have y7 : Hid (∀ j (h : j < a7.length), j < k + 1 -> cW5 a7 j h) := qZ (fun j h h0 => by
      by_cases e : j = k
      · subst e
        exact b8.out.1 rfl
      exact C6.out j h (by omega))
    go_wp2_with fail
    go_roundw
    case rel => exact ⟨k + 1, by omega, by go_num, y7, B9⟩
    case measure => simp [intOf]; omega
end
section
open Go.RowKit Go.Maps Oct
structure OpS (w : World) (base g m : Nat) (es : List (Nm × FE)) (bd gj : Nat) (d : DkD) (t v : Int) (sv : Value) (bad : Int) (wx : World) (es' : List (Nm × FE)) : Prop where
 disk : aB0 wx base g m d.pw d.room es'
 fs : sec FE.f es' = d.fs
 jb : Blk wx gj 53 #[.int .i64 t, .int .i64 v, sv, .pointer (some ⟨g, 0, none⟩), .int .i64 bad]
 bx : Blk wx bd 26 #[.pointer (some ⟨g, 0, none⟩)]
 fr : Fr (aA8 g m es) w wx
 grow : ∀ k, aA8 g m es' k -> aA8 g m es k ∨ w.heap.size <= k
 lo : w.heap.size <= bd ∧ bd < gj
section
variable {w wx wy : World} {base g m bd gj : Nat} {es es' : List (Nm × FE)} {d d' : DkD} {t v : Int} {sv : Value} {bad bad' : Int}
theorem OpS.below (h : OpS w base g m es bd gj d t v sv bad wx es') (hb : Below wx.heap.size wx wy) : OpS w base g m es bd gj d t v sv bad wy es' :=
 ⟨h.disk.below hb, h.fs, h.jb.below hb h.jb.lt, h.bx.below hb h.bx.lt, h.fr.trans (Fr.of_below (aA8 g m es) hb) (fun j hj => .inl hj), h.grow, h.lo⟩
theorem OpS.nj (h : OpS w base g m es bd gj d t v sv bad wx es') : ¬ aA8 g m es' gj := h.disk.not_foot h.jb (by decide) (by decide) (by decide)
theorem OpS.nb (h : OpS w base g m es bd gj d t v sv bad wx es') : ¬ aA8 g m es' bd := h.disk.not_foot h.bx (by decide) (by decide) (by decide)
theorem OpS.acts (h : OpS w base g m es bd gj d t v sv bad wx es') (a7 : dL9 wx base g m es' gj t v sv d' bad' wy) : ∃ es2, OpS w base g m es bd gj d' t v sv bad' wy es2 ∧ (∀ k, aA8 g m es2 k -> aA8 g m es' k ∨ wx.heap.size <= k) ∧ Fr (fun k => aA8 g m es' k ∨ k = gj) wx wy := by
 obtain ⟨es2, h1, h2, h3, h4, h5⟩ := a7;have a9 := h.fr.size;have a8 := h.lo;refine ⟨es2, ⟨h1, h2, h3, ?_, ?_, fun k hk => ?_, h.lo⟩, h5, h4⟩
 ·exact h4.blk_ h.bx (by rintro (h6 | h6); exact h.nb h6; omega)
 ·exact h.fr.trans h4 (fun j hj => by
   rcases hj with hj | hj
   ·exact h.grow j hj
   exact .inr (by omega))
 rcases h5 k hk with h6 | h6
 ·exact h.grow k h6
 exact .inr (by omega)
theorem OpS.put {t' v' : Int} {sv' : Value} (h : OpS w base g m es bd gj d t v sv bad wx es') (hg : wx.grownBy wy (some gj)) (hB : Blk wy gj 53 #[.int .i64 t', .int .i64 v', sv', .pointer (some ⟨g, 0, none⟩), .int .i64 bad']) : OpS w base g m es bd gj d t' v' sv' bad' wy es' := by
 have a7 := h.lo;refine ⟨h.disk.keep hg.size (fun k hk => hg.block k (h.disk.lt k hk).2 (fun e => by injection e with e; subst e; exact h.nj hk)), h.fs, hB, h.bx.grown hg (by intro e; injection e with e; omega), h.fr.trans (Fr.of_grown (mine := fun k => k = gj) hg (fun k e => by injection e with e; exact e.symm)) (fun j hj => .inr (by omega)), h.grow, h.lo⟩
theorem OpS.baseB (h : OpS w base g m es bd gj d t v sv bad wx es') (hD : ∀ k, aA8 g m es k -> base <= k) (hb : base <= w.heap.size) : Below base w wx := h.fr.below hb hD
end
def bC9 (d : DkD) : Int × DkD := if (d.fs.any fun q => q.1 == aA3) = true then d.remove aA3 else (0, d)
theorem cK0 {d : DkD} (h : d.pw.off = false) : aL5 d = if (bC9 d).1 = 0 then aS9 (bC9 d).2 else ((bC9 d).1, none, (bC9 d).2) := by
 unfold aL5 bC9;rw [if_neg (by rw [h]; simp)];split
 ·rfl
 rw [if_pos rfl]
theorem cX2 {d : DkD} (h : d.pw.off = true) : aL5 d = (50, none, d) := by
 unfold aL5;rw [if_pos h]
theorem dD5 {d : DkD} (h : d.pw.off = false) (h0 : (bC9 d).1 = 0) : (bC9 d).2.pw.off = false := by
 unfold bC9 at h0 ⊢;split
 ·rename_i h1
  rw [if_pos h1] at h0;exact cP0 h0
 exact h
theorem dK0 {d : DkD} {L : Nat} (h : JDk L d) : JDk L (bC9 d).2 := by
 unfold bC9;split
 ·exact h.run (.rm aA3)
 exact h
end
section
open Go.RowKit Go.Maps Oct
structure aN4 (w : World) (F : Nat -> Prop) (A : Option Addr) (recs : List aF7) : Prop where
 addr : 0 < recs.length -> ∃ gr, A = some ⟨gr, 0, none⟩ ∧ F gr ∧ gr < w.heap.size ∧ ∀ i (h : i < recs.length), aT7 w F ⟨gr, i * 6, none⟩ recs[i].s ∧ ∀ j u, (bA2 recs[i])[j]? = some u -> w.cell? ⟨gr, i * 6 + j, none⟩ = some u
section
variable {w w' : World} {F F' : Nat -> Prop} {A : Option Addr} {recs : List aF7}
theorem aN4.keep (h : aN4 w F A recs) (hs : w.heap.size <= w'.heap.size) (hk : ∀ k, F k -> w'.heap[k]? = w.heap[k]?) : aN4 w' F A recs := ⟨fun h0 => by
 obtain ⟨gr, e, hF, hlt, hc⟩ := h.addr h0;exact ⟨gr, e, hF, by omega, fun i hi => ⟨(hc i hi).1.keep hs hk, fun j u hu => (World.cell?_of_block (hk gr hF)).trans ((hc i hi).2 j u hu)⟩⟩⟩
theorem aN4.mono (h : aN4 w F A recs) (hF : ∀ k, F k -> F' k) : aN4 w F' A recs := ⟨fun h0 => by
 obtain ⟨gr, e, hFg, hlt, hc⟩ := h.addr h0;exact ⟨gr, e, hF gr hFg, hlt, fun i hi => ⟨(hc i hi).1.mono hF, (hc i hi).2⟩⟩⟩
theorem aN4.take (h : aN4 w F A recs) (n : Nat) : aN4 w F A (recs.take n) := ⟨fun h0 => by
 rw [lV] at h0;obtain ⟨gr, e, hFg, hlt, hc⟩ := h.addr (by omega);refine ⟨gr, e, hFg, hlt, fun i hi => ?_⟩;rw [lV] at hi;rw [List.getElem_take];exact hc i (by omega)⟩
theorem aN4.of_row {B c : Nat} (a8 : w.ownsRow B 106 6 (.slice A recs.length c) recs.length (aJ7 recs)) (hq : ∀ q ∈ recs, aT9 w B q) (a7 : ∀ q ∈ recs, bG2 q.s) (hF : ∀ k, B <= k -> k < w.heap.size -> F k) : aN4 w F A recs := ⟨fun h0 => by
 obtain ⟨A', c', hv, h1, h2, h3⟩ := aC2 a8;obtain ⟨gr, cur, rfl, hgb, hgl, hgh, hgs, hgc⟩ := h3 h0;injection hv with hv _ _
 subst hv;have hcell : ∀ i (hi : i < recs.length) j u, (bA2 recs[i])[j]? = some u -> w.cell? ⟨gr, i * 6 + j, none⟩ = some u := fun i hi j u hu => by
  have hj := (List.getElem?_eq_some_iff.1 hu).1;exact hgc _ _ ((bJ5 recs hi hj).trans hu)
 refine ⟨gr, rfl, hF gr hgb hgl, hgl, fun i hi => ⟨⟨?_, a7 _ (lX hi)⟩, hcell i hi⟩⟩;have hok := hq _ (lX hi);obtain ⟨q, hqe⟩ : ∃ q, q = recs[i] := ⟨_, rfl⟩
 rw [<- hqe] at hok ⊢;have hrl : q.rs.length = q.s.l.length := by rw [<- hok.map, lU]
 obtain ⟨A1, c1, e1, k1, k2, _⟩ := aC2 hok.ents;obtain ⟨A2, c2, e2, k3, k4, _⟩ := Own.shape hok.ends;unfold aF7.vl at e1;unfold aF7.ve at e2;injection e1 with _ _ e1
 injection e2 with _ e3 e2
 rw [lU] at k3 e3;refine ⟨q.al, q.cl, q.rs, q.ae, q.ce, fun _ => ⟨gr, i * 6, rfl, hF gr hgb hgl, hgl, fun j u hu => hcell i hi j u ?_⟩, by rw [e1, <- hrl]; exact k1, by rw [e1]; unfold maxLen; omega, by rw [e2]; exact k3, by rw [e2]; exact k4, RdF.of_row hok.ents hF (by rw [aC0]; omega), hok.map, fun x hx => (hok.dat x hx).datF hF, RdF.of_own hok.ends hF⟩;rw [<- hqe];have hj := (List.getElem?_eq_some_iff.1 hu).1;have : (bA2 q)[j]? = ([Value.int .i64 q.s.k, .int .i64 q.s.first, .int .i64 q.s.term, .slice q.al q.s.l.length q.cl, .slice q.ae q.s.ends.length q.ce] : List Value)[j]? := by
  unfold bA2 aF7.vl aF7.ve;rw [hrl];simp only [mC, List.length_nil] at hj;rcases (by omega : j = 0 ∨ j = 1 ∨ j = 2 ∨ j = 3 ∨ j = 4) with rfl | rfl | rfl | rfl | rfl <;> rfl
 rw [this];exact hu⟩
end
end
section
open Go.RowKit Go.Maps Oct
def cQ6 (w : World) (base g m : Nat) (es : List (Nm × FE)) (r : Int × Option JnP × DkD) (e : Ending) (w' : World) : Prop :=
 ∃ es', aB0 w' base g m r.2.2.pw r.2.2.room es' ∧ sec FE.f es' = r.2.2.fs ∧ Fr (aA8 g m es) w w' ∧ (∀ k, aA8 g m es' k -> aA8 g m es k ∨ w.heap.size <= k) ∧
  match r.2.1 with
  | none => e = .returned (.tuple #[.pointer none, .int .i64 r.1])
  | some j => ∃ (gj : Nat) (F : Nat -> Prop), e = .returned (.tuple #[.pointer (some ⟨gj, 0, none⟩), .int .i64 r.1]) ∧ w.heap.size <= gj ∧ JAt w' F gj g j ∧ ∀ k, F k -> w.heap.size <= k ∧ k < w'.heap.size ∧ k ≠ gj ∧ ¬ aA8 g m es' k
theorem OpS.endNone {w wx : World} {base g m bd gj : Nat} {es es' : List (Nm × FE)} {d : DkD} {t v : Int} {sv : Value} {bad : Int} (h : OpS w base g m es bd gj d t v sv bad wx es') (c : Int) {r : Int × Option JnP × DkD} (hr : r = (c, none, d)) : cQ6 w base g m es r (.returned (.tuple #[.pointer none, .int .i64 c])) wx := by
 subst hr;exact ⟨es', h.disk, h.fs, h.fr, h.grow, rfl⟩
def aQ7 (l : List (aB1 × Bool)) (m : Int × Int) (d : DkD) : Int × Option JnP × DkD := match l.getLast? with
 | none => aG3 l m d
 | some f => if f.1.ends.isEmpty = true then (if (d.remove (aA1 f.1.k)).1 = 0 then aG3 l.dropLast m (d.remove (aA1 f.1.k)).2 else ((d.remove (aA1 f.1.k)).1, none, (d.remove (aA1 f.1.k)).2)) else aG3 l m d
def cX9 : Option (Int × Int) -> Option (List (aB1 × Bool)) -> DkD -> Int × Option JnP × DkD
 | some m, some l, d => aQ7 l m d
 | _, _, d => (53, none, d)
theorem bL8 (d : DkD) : aS9 d = cX9 (aH2 d) (aX5 d) d := by
 unfold aS9 cX9 aQ7;cases aH2 d <;> cases aX5 d <;> rfl
structure bS0 (q : aF7) : Prop where
 ok : bN9 q.s
 first : 1 <= q.s.first
 k : 1 <= q.s.k ∧ q.s.k <= 999999999
 txt : ∀ e ∈ q.s.l, e.b.length <= 65535
 len : q.s.l.length <= 1000000000
theorem dK6 {l : List (aB1 × Bool)} {recs : List aF7} (a7 : recs.map aF7.o = l) (h : (∀ y ∈ l, bG2 y.1 ∧ (1 <= y.1.k ∧ y.1.k <= 999999999) ∧ (y.1.ends = [] ∧ y.1.l = [] ∨ bN9 y.1 ∧ 1 <= y.1.first) ∧ (∀ e ∈ y.1.l, e.b.length <= 65535) ∧ y.1.l.length <= 1000000000) ∧ aK0 l = true) :
  (∀ i (h : i + 1 < recs.length), bS0 recs[i]) ∧ ∀ q ∈ recs, q.s.ends ≠ [] -> bS0 q := by
 subst a7;have hq : ∀ q ∈ recs, q.s.ends ≠ [] -> bS0 q := fun q hq hne => by
  obtain ⟨h1, h2, h3, h4, h5⟩ := h.1 q.o (List.mem_map.2 ⟨q, hq, rfl⟩);rcases h3 with h3 | h3
  ·exact absurd h3.1 hne
  exact ⟨h3.1, h3.2, h2, h4, h5⟩
 refine ⟨fun i hi => hq _ (lX (by omega)) ?_, hq⟩;have h1 := (bQ7 _).1 h.2 i (by rw [lU]; exact hi);simp only [List.getElem_map] at h1;exact h1.2.2
theorem bB1 (r : List aF7) (q : aF7) (m : Int × Int) (d : DkD) : aQ7 ((r ++ [q]).map aF7.o) m d = if q.s.ends.isEmpty = true then (if (d.remove (aA1 q.s.k)).1 = 0 then aG3 (r.map aF7.o) m (d.remove (aA1 q.s.k)).2 else ((d.remove (aA1 q.s.k)).1, none, (d.remove (aA1 q.s.k)).2)) else aG3 ((r ++ [q]).map aF7.o) m d := by
 unfold aQ7;rw [mE, mG, List.map_nil, List.getLast?_append];simp only [List.getLast?_singleton, Option.some_or, List.dropLast_concat]
 rfl
theorem cK7 (a : aC3) (d : DkD) : aG1 [a] d = a.run d := by
 unfold aG1;by_cases h0 : (a.run d).1 = 0
 ·rw [if_pos h0]
  exact Prod.ext h0.symm rfl
 rw [if_neg h0]
theorem aI1 {w : World} {g : Nat} {T : TypeId} {cs : Array Value} (h : Blk w g T cs) (j : Nat) (u : Value) (hu : cs.toList[j]? = some u) : w.cell? ⟨g, j, none⟩ = some u := (h.cell j).trans (by rw [<- Array.getElem?_toList]; exact hu)
theorem OpS.grown {w wx wy : World} {base g m bd gj : Nat} {es es' : List (Nm × FE)} {d : DkD} {t v : Int} {sv : Value} {bad : Int} (h : OpS w base g m es bd gj d t v sv bad wx es') {row : Option Nat} (hg : wx.grownBy wy row) (hr : ∀ k, row = some k -> k ≠ gj ∧ k ≠ bd ∧ ¬ aA8 g m es' k ∧ w.heap.size <= k) : OpS w base g m es bd gj d t v sv bad wy es' :=
 ⟨h.disk.keep hg.size (fun k hk => hg.block k (h.disk.lt k hk).2 (fun e => (hr k e.symm).2.2.1 hk)), h.fs, h.jb.grown hg (fun e => (hr gj e.symm).1 rfl), h.bx.grown hg (fun e => (hr bd e.symm).2.1 rfl), h.fr.trans (Fr.of_grown (mine := fun k => row = some k) hg (fun k e => e)) (fun j hj => .inr (hr j hj).2.2.2), h.grow, h.lo⟩
def dO9 (A : Option Addr) (q : Nat) : Value := .pointer (some ⟨(A.map Addr.block).getD 0, q * 6, none⟩)
def bG5 (A : Option Addr) (st n : Nat) : List Value := (List.range' st (n - st)).map (dO9 A)
theorem cX6 (A : Option Addr) {st k : Nat} (h : st <= k) : bG5 A st (k + 1) = bG5 A st k ++ [dO9 A k] := by
 unfold bG5;rw [show k + 1 - st = (k - st) + 1 by omega, List.range'_1_concat, mE, show st + (k - st) = k by omega]
 rfl
theorem cK3 (A : Option Addr) (st k : Nat) : (bG5 A st k).length = k - st := by unfold bG5; simp
theorem dE8 {sl : List aB1} {k st : Nat} (hk : k < sl.length) (a7 : 0 < k -> st < k) (h : aE0 [] (sl.take k) = (sl.take k).drop st) (a9 : st <= k) (hg : ∀ h0 : 0 < k, sl[k].goesOn (sl[k - 1]'(by omega)) = true) : aE0 [] (sl.take (k + 1)) = (sl.take (k + 1)).drop st := by
 have a8 : sl.take (k + 1) = sl.take k ++ [sl[k]] := by rw [List.take_add_one, lW hk]; rfl
 rw [a8, aL3, h];unfold aT1;rcases Nat.eq_zero_or_pos k with h0 | h0
 ·subst h0
  obtain rfl : st = 0 := by omega
  simp
 have hl : ((sl.take k).drop st).getLast? = some (sl[k - 1]'(by omega)) := by
  rw [List.getLast?_drop, if_neg (by rw [lV]; have := a7 h0; omega), List.getLast?_eq_getElem?, lV, Nat.min_eq_left (by omega), List.getElem?_take_of_lt (by omega), lW (by omega)]
 rw [hl];simp only;rw [if_pos (hg h0), List.drop_append_of_le_length (by rw [lV]; omega)]
theorem dK8 {sl : List aB1} {k st : Nat} (hk : k < sl.length) (h0 : 0 < k) (a7 : 0 < k -> st < k) (h : aE0 [] (sl.take k) = (sl.take k).drop st) (hg : sl[k].goesOn (sl[k - 1]'(by omega)) = false) : aE0 [] (sl.take (k + 1)) = (sl.take (k + 1)).drop k := by
 have a8 : sl.take (k + 1) = sl.take k ++ [sl[k]] := by rw [List.take_add_one, lW hk]; rfl
 rw [a8, aL3, h];unfold aT1;have hl : ((sl.take k).drop st).getLast? = some (sl[k - 1]'(by omega)) := by
  rw [List.getLast?_drop, if_neg (by rw [lV]; have := a7 h0; omega), List.getLast?_eq_getElem?, lV, Nat.min_eq_left (by omega), List.getElem?_take_of_lt (by omega), lW (by omega)]
 rw [hl];simp only;rw [if_neg (by rw [hg]; simp), List.drop_append_of_le_length (by rw [lV]; omega), List.drop_eq_nil_of_le (by rw [lV]; omega)]
 rfl
def EF (bd lo hi nE : Nat) (W : World) (x : Nat) : Prop := x = bd ∨ (lo <= x ∧ x < hi) ∨ (nE <= x ∧ x < W.heap.size ∧ ∀ cs fz, W.heap[x]? ≠ some (.cells cs 98 fz))
theorem EF.same {bd lo hi nE : Nat} {W W' : World} {row : Option Nat} (hg : W.grownBy W' row) (a7 : bd < nE ∧ hi <= nE ∧ nE <= W.heap.size) (hr : ∀ r, row = some r -> nE <= r ∧ ∃ cs fz, W.heap[r]? = some (.cells cs 98 fz)) : (∀ x, EF bd lo hi nE W x -> W'.heap[x]? = W.heap[x]?) ∧ ∀ x, EF bd lo hi nE W x -> EF bd lo hi nE W' x := by
 have h1 : ∀ x, EF bd lo hi nE W x -> W'.heap[x]? = W.heap[x]? := fun x hx => by
  have hs : x < W.heap.size := by
   rcases hx with h | h | h
   ·omega
   ·omega
   exact h.2.1
  refine hg.block x hs fun e => ?_
  obtain ⟨h2, cs, fz, h3⟩ := hr x e.symm;rcases hx with h | h | h
  ·omega
  ·omega
  exact h.2.2 cs fz h3
 refine ⟨h1, fun x hx => ?_⟩;rcases hx with h | h | h
 ·exact .inl h
 ·exact .inr (.inl h)
 refine .inr (.inr ⟨h.1, by have := hg.size; omega, fun cs fz => ?_⟩);rw [h1 x (.inr (.inr h))];exact h.2.2 cs fz
theorem EF.below {bd lo hi nE : Nat} {W W' : World} (hb : Below W.heap.size W W') (hlt : bd < nE ∧ hi <= nE ∧ nE <= W.heap.size) : (∀ x, EF bd lo hi nE W x -> W'.heap[x]? = W.heap[x]?) ∧ ∀ x, EF bd lo hi nE W x -> EF bd lo hi nE W' x :=
 EF.same (aA5 hb none) hlt (fun r h => by cases h)
structure aY2 (W : World) (bd lo hi nE gj g : Nat) (dv : Value) (vs : List Value) (al : List aC3) : Prop where
 own : Own W nE 98 dv vs
 len : vs.length = al.length
 acts : ∀ i (h : i < vs.length) (h' : i < al.length), aK3 W (EF bd lo hi nE W) gj g vs[i] al[i]
 fns : ∀ v ∈ vs, v.oneCell' = true
section
variable {W W' : World} {bd lo hi nE gj g : Nat} {dv : Value} {vs : List Value} {al : List aC3}
theorem aY2.nil : aY2 W bd lo hi nE gj g (.slice none 0 0) [] [] := ⟨Own.nil _ _ _, rfl, fun i h => by simp at h, fun v hv => by cases hv⟩
theorem aY2.below (h : aY2 W bd lo hi nE gj g dv vs al) (hb : Below W.heap.size W W') (a7 : bd < nE ∧ hi <= nE ∧ nE <= W.heap.size) : aY2 W' bd lo hi nE gj g dv vs al := by
 obtain ⟨h1, h2⟩ := EF.below (bd := bd) (lo := lo) (hi := hi) (nE := nE) hb a7;exact ⟨Own.below h.own hb (lR _), h.len, fun i h3 h4 => ((h.acts i h3 h4).keep hb.size h1).mono h2, h.fns⟩
theorem aY2.push {W2 : World} {v dv' : Value} {a : aC3} (h : aY2 W bd lo hi nE gj g dv vs al) (a8 : bd < nE ∧ hi <= nE ∧ nE <= W.heap.size) (ha : aK3 W (EF bd lo hi nE W) gj g v a) (h1 : v.oneCell' = true) (hg : W.grownBy W2 dv.ownBlock) (a7 : Own W2 nE 98 dv' (vs ++ [v])) : aY2 W2 bd lo hi nE gj g dv' (vs ++ [v]) (al ++ [a]) := by
 obtain ⟨k1, k2⟩ := EF.same (bd := bd) (lo := lo) (hi := hi) (nE := nE) hg a8 (fun r e => by
  obtain ⟨cs, hc⟩ := aD1 h.own e;exact ⟨(h.own.lt r e).1, cs, _, hc⟩)
 refine ⟨a7, by rw [lT, lT, h.len]; rfl, fun i h3 h4 => ?_, fun x hx => ?_⟩
 ·by_cases hi : i < vs.length
  ·rw [List.getElem_append_left hi, List.getElem_append_left (by rw [<- h.len]; exact hi)]
   exact ((h.acts i hi _).keep hg.size k1).mono k2
  have e : i = vs.length := by rw [lT] at h3; simp at h3; omega
  subst e;have e2 : (al ++ [a])[vs.length] = a := by simp [h.len]
  rw [e2];simp only [List.getElem_concat_length];exact (ha.keep hg.size k1).mono k2
 rcases List.mem_append.1 hx with hx | hx
 ·exact h.fns x hx
 obtain rfl := List.mem_singleton.1 hx;exact h1
end
theorem cU0 {w w2 w3 : World} {base g m bd gj : Nat} {es es' : List (Nm × FE)} {d : DkD} {t v : Int} {sv : Value} (hO : OpS w base g m es bd gj d t v sv 0 w2 es') (b8 : Below w2.heap.size w2 w3) (a : aC3) (F3 : Nat) (caps3 : Array Value) (a9 : ∀ E : Nat -> Prop, (∀ k, w2.heap.size <= k -> k < w3.heap.size -> E k) -> aK3 w3 E gj g (.func (.func F3) #[] caps3) a)
  (d8 : ∀ k, aA8 g m es k -> base <= k) (g7 : base <= w.heap.size) (hE : ∀ w', Below base w w' -> Tab w' ∧ dA1 w') {L : Nat} (g8 : JDk L d) (hL : L + a.cost <= 137438953472) :
  Calls Tryz.prog 48 #[.pointer (some ⟨gj, 0, none⟩), .slice (some ⟨w3.heap.size, 0, none⟩) 1 1] (w3.alloc (.cells #[.func (.func F3) #[] caps3] 98)) fun e w' => e = .returned (.int .i64 (a.run d).1) ∧ ∃ es2, OpS w base g m es bd gj (a.run d).2 t v sv (a.run d).1 w' es2 ∧ (∀ k, aA8 g m es2 k -> aA8 g m es' k ∨ w3.heap.size < k) ∧ Fr (fun k => aA8 g m es' k ∨ k = gj) w2 w' := by
 have g9 := b8.size;have f8 : Below w2.heap.size w2 (w3.alloc (.cells #[.func (.func F3) #[] caps3] 98)) := b8.alloc b8.size _;have a8 := hO.below f8;have e9 : RdF (w3.alloc (.cells #[.func (.func F3) #[] caps3] 98)) (fun k => w2.heap.size <= k ∧ k < w3.heap.size + 1) (some ⟨w3.heap.size, 0, none⟩) [.func (.func F3) #[] caps3] := fun _ => ⟨w3.heap.size, 0, rfl, ⟨g9, by omega⟩, by simp, fun j u hu => by
  rw [Nat.zero_add];exact aI1 (Blk.new w3 98 #[.func (.func F3) #[] caps3]) j u hu⟩
 have g6 : ∀ k (h : k < [Value.func (.func F3) #[] caps3].length) (h' : k < [a].length), aK3 (w3.alloc (.cells #[.func (.func F3) #[] caps3] 98)) (fun k => w2.heap.size <= k ∧ k < w3.heap.size + 1) gj g [Value.func (.func F3) #[] caps3][k] [a][k] := fun k h h' => by
  obtain rfl : k = 0 := by simp at h; exact h
  have a7 := (lS w3.heap.size w3).alloc (lR _) (.cells #[.func (.func F3) #[] caps3] 98);exact ((a9 (fun k => w2.heap.size <= k ∧ k < w3.heap.size) (fun k h1 h2 => ⟨h1, h2⟩)).keep a7.size (fun k hk => a7.block k hk.2)).mono (fun k hk => ⟨hk.1, by omega⟩)
 have i1 := hO.lo;have f7 := aR7 a8.disk a8.jb (by omega) (some ⟨w3.heap.size, 0, none⟩) [.func (.func F3) #[] caps3] [a] 1 e9 rfl g6 (fun k hk => ⟨by simp; omega, fun hf => by have := (hO.disk.lt k hf).2; omega, by have := hO.jb.lt; omega⟩) (fun w' hb' => (hE w' ((a8.baseB d8 g7).trans hb')).1) (L := L) (by rw [DkD.eta' d hO.fs]; exact g8) (by rw [bC1]; show L + (a.cost + 0) <= _; omega) (by simp);rw [DkD.eta' d hO.fs, cK7] at f7;refine f7.mono ?_;rintro e w4 ⟨rfl, f9⟩;obtain ⟨es2, h1, h2, h3⟩ := a8.acts f9;refine ⟨rfl, es2, h1, fun k hk => ?_, (Fr.of_below (fun k => aA8 g m es' k ∨ k = gj) f8).trans h3 (fun j hj => .inl hj)⟩;rcases h2 k hk with h4 | h4
 ·exact .inl h4
 refine .inr ?_;simp at h4
 omega
end
section
open Go.RowKit Go.Maps Oct
theorem bU9 {d : DkD} {t v : Int} (h : aH2 d = some (t, v)) : (-9223372036854775808 <= t ∧ t <= 9223372036854775807) ∧ (-9223372036854775808 <= v ∧ v <= 9223372036854775807) := by
 unfold aH2 at h;split at h
 split at h
 ·injection h with h
  injection h with h1 h2
  omega
 split at h
 ·cases h
 split at h
 ·rename_i t' v' h1
  injection h with h
  injection h with h2 h3
  subst h2 h3;have k := aS3 2 _ _ _ h1;have k1 := k t' (by simp);have k2 := k v' (by simp);omega
 cases h
def bD6 (recs : List aF7) : List aC3 := match recs.getLast? with
 | none => []
 | some q => (if q.tn = true then [.cut (aA1 q.s.k) q.s.long] else []) ++ [.sync (aA1 q.s.k)]
theorem cF1 (recs : List aF7) (m : Int × Int) (d : DkD) {st : Nat} (a7 : st <= recs.length) (h : aE0 [] (recs.map aF7.s) = (recs.map aF7.s).drop st) {r : Int × DkD} (hr : r = aG1 ((recs.take st).map (fun q => aC3.rm (aA1 q.s.k)) ++ bD6 recs) d) :
  aG3 (recs.map aF7.o) m d = (r.1, if r.1 = 0 then some ⟨m.1, m.2, (recs.map aF7.s).drop st, 0⟩ else none, r.2) := by
 subst hr;have h1 : (recs.map aF7.o).map (·.1) = recs.map aF7.s := by rw [List.map_map]; rfl
 have h2 : (recs.map aF7.o).getLast? = recs.getLast?.map aF7.o := List.getLast?_map;have h3 : (recs.map aF7.o).length - ((recs.map aF7.s).drop st).length = st := by
  rw [lU, lZ, lU];omega
 have h4 : ((recs.map aF7.o).take st).map (fun f => aC3.rm (aA1 f.1.k)) = (recs.take st).map (fun q => aC3.rm (aA1 q.s.k)) := by
  rw [<- List.map_take, List.map_map]
  rfl
 unfold aG3;simp only [h1, h];rw [h3, h4, h2];unfold bD6;cases recs.getLast? <;> rfl
theorem cP6 (r : List aF7) (q : aF7) : bD6 (r ++ [q]) = (if q.tn = true then [.cut (aA1 q.s.k) q.s.long] else []) ++ [.sync (aA1 q.s.k)] := by
 unfold bD6;rw [List.getLast?_append];simp
theorem bC2 : ∀ {l : List aC3}, (∀ a ∈ l, a.cost = 0) -> aF4 l = 0
 | [], _ => rfl
 | a :: r, h => by
  rw [bC1, h a (List.mem_cons_self ..), bC2 (fun b hb => h b (List.mem_cons_of_mem _ hb))]
theorem cY7 (l recs : List aF7) : aF4 (l.map (fun q => aC3.rm (aA1 q.s.k)) ++ bD6 recs) = 0 := by
 refine bC2 fun a ha => ?_
 rcases List.mem_append.1 ha with ha | ha
 ·obtain ⟨q, _, rfl⟩ := List.mem_map.1 ha
  rfl
 unfold bD6 at ha;split at ha
 ·cases ha
 rcases List.mem_append.1 ha with ha | ha
 ·split at ha
  ·rw [List.mem_singleton.1 ha]; rfl
  cases ha
 rw [List.mem_singleton.1 ha]; rfl
theorem dF5 (recs : List aF7) : (bD6 recs).length <= 2 := by
 unfold bD6;split
 ·simp
 rw [lT];split <;> simp
theorem aN4.box {W : World} {F E : Nat -> Prop} {A : Option Addr} {recs : List aF7} (h : aN4 W F A recs) {i : Nat} (hi : i < recs.length) {q : aF7} (hq : q = recs[i]) {b : Nat} (hb : Blk W b 106 #[.int .i64 q.s.k, .int .i64 q.s.first, .int .i64 q.s.term, .slice q.al q.rs.length q.cl, .slice q.ae q.s.ends.length q.ce, .bool q.tn]) (hE : ∀ k, F k -> E k) (a9 : E b) : aT7 W E ⟨b, 0, none⟩ q.s := by
 obtain ⟨gr, rfl, b8, d8, hc⟩ := h.addr (by omega);obtain ⟨hS, a7⟩ := hc i hi;rw [<- hq] at hS a7;obtain ⟨⟨Al, cl, rs, Ae, ce, h1, h2, h3, h4, h5, h6, h7, h8, h9⟩, hn⟩ := hS;obtain ⟨b0, o0, e, _, _, a8⟩ := h1 (by simp);injection e with e
 injection e with e1 e2 _
 subst e1 e2;have k3 := a8 3 _ rfl;rw [a7 3 _ rfl] at k3;injection k3 with k3
 have k4 := a8 4 _ rfl;rw [a7 4 _ rfl] at k4;injection k4 with k4
 unfold aF7.vl at k3;unfold aF7.ve at k4;refine ⟨⟨Al, cl, rs, Ae, ce, fun _ => ⟨b, 0, rfl, a9, hb.lt, fun j u hu => ?_⟩, h2, h3, h4, h5, h6.mono hE, h7, fun x hx => (h8 x hx).mono hE, h9.mono hE⟩, hn⟩;rw [Nat.zero_add];rw [k3, k4] at hb;refine aI1 hb j u ?_;have hj := (List.getElem?_eq_some_iff.1 hu).1;rw [<- hu];simp only [mC, List.length_nil] at hj;rcases (by omega : j = 0 ∨ j = 1 ∨ j = 2 ∨ j = 3 ∨ j = 4) with rfl | rfl | rfl | rfl | rfl <;> rfl
theorem bS0.segM {w : World} {F : Nat -> Prop} {ad : Addr} {q : aF7} (h : bS0 q) (hs : aT7 w F ad q.s) : aY4 w F ad q.s := ⟨hs, h.ok.ends, by have := h.len; omega, h.txt⟩
theorem OpS.endSome {w wy : World} {base g m bd gj : Nat} {es es3 : List (Nm × FE)} {d3 : DkD} {mt mv : Int} {As Al : Option Addr} {cs : Nat} {F1 F2 : Nat -> Prop} {recs : List aF7} {st ls : Nat} (h : OpS w base g m es bd gj d3 mt mv (.slice As ls cs) 0 wy es3) (hL : aN4 wy F1 Al recs) (g7 : st <= recs.length) (b8 : ls = recs.length - st) (d8 : ls <= cs ∧ cs <= maxLen) (hR : RdF wy F2 As (bG5 Al st recs.length)) (e9 : ∀ q ∈ recs, bS0 q) (hn : recs.length <= 1000000000)
  (a7 : (-9223372036854775808 <= mt ∧ mt <= 9223372036854775807) ∧ (-9223372036854775808 <= mv ∧ mv <= 9223372036854775807)) (hF : ∀ k, F1 k ∨ F2 k -> w.heap.size <= k ∧ k < wy.heap.size ∧ k ≠ gj ∧ ¬ aA8 g m es3 k) {r : Int × Option JnP × DkD} (hr : r = (0, some ⟨mt, mv, (recs.map aF7.s).drop st, 0⟩, d3)) :
  cQ6 w base g m es r (.returned (.tuple #[.pointer (some ⟨gj, 0, none⟩), .int .i64 0])) wy := by
 subst hr;have a8 : ((recs.map aF7.s).drop st).length = ls := by rw [lZ, lU, b8]
 have g6 := h.lo;refine ⟨es3, h.disk, h.fs, h.fr, h.grow, gj, fun k => F1 k ∨ F2 k, rfl, by omega, ?_, hF⟩;refine ⟨?_, by show ((recs.map aF7.s).drop st).length <= _; omega, a7⟩;refine ⟨As, cs, (List.range' st (recs.length - st)).map (fun q => ⟨(Al.map Addr.block).getD 0, q * 6, none⟩), ?_, ?_, ?_, ?_, ?_⟩
 ·show Blk wy gj _ #[.int .i64 mt, .int .i64 mv, .slice As ((recs.map aF7.s).drop st).length cs, _, _]
  rw [a8];exact h.jb
 ·show ((recs.map aF7.s).drop st).length <= cs ∧ _
  rw [a8];exact d8
 ·have e : (List.map (fun q => (⟨(Al.map Addr.block).getD 0, q * 6, none⟩ : Addr)) (List.range' st (recs.length - st))).map (fun a => Value.pointer (some a)) = bG5 Al st recs.length := by
   unfold bG5 dO9;rw [List.map_map]
   rfl
  rw [e];exact hR.mono (fun k hk => .inr hk)
 ·show _ = ((recs.map aF7.s).drop st).length
  rw [a8, b8];simp
 intro i hi a9;have f9 : i < recs.length - st := by simpa using hi
 obtain ⟨gr, rfl, f7, f8, hc⟩ := hL.addr (by omega);have e1 : ((recs.map aF7.s).drop st)[i]'(a9) = (recs[st + i]'(by omega)).s := by
  rw [List.getElem_drop, List.getElem_map]
 show aY4 wy _ _ (((recs.map aF7.s).drop st)[i]'(a9))
 rw [e1];simp only [List.getElem_map, List.getElem_range', Nat.one_mul];exact (e9 _ (lX _)).segM ((hc (st + i) (by omega)).1.mono (fun k hk => .inl hk))
theorem EF.fresh {bd lo hi nE : Nat} {W : World} {b : Nat} {T : TypeId} {cs : Array Value} (hb : Blk W b T cs) (h1 : nE <= b) (hT : T ≠ 98) : EF bd lo hi nE W b := .inr (.inr ⟨h1, hb.lt, fun cs' fz e => by
 have e2 := e.symm.trans hb;injection e2 with e2
 injection e2 with _ e2 _
 exact hT e2.symm⟩)
end
section
open Oct
theorem cM8 {k : Int} (h : 1 <= k ∧ k <= 999999999) : bH8 (aA1 k) = k := by
 have he : Lib.itoa k = Lib.decDigits k.toNat := by unfold Lib.itoa; rw [if_neg (by omega)]
 have hp := bZ6 k.toNat (by omega) [] (fun c h => by cases h);rw [List.append_nil, <- he] at hp;have hr : ((k.toNat : Nat) : Int) = k := by omega
 rw [hr] at hp;have a7 : Lib.itoa k ≠ [] := by rw [he]; exact (aO8 k.toNat).2.2.1
 have hl : (Lib.itoa k).length <= 9 := by rw [he]; exact cS0 8 k.toNat (by omega)
 have h1 : 1 <= (Lib.itoa k).length := by
  cases hx : Lib.itoa k with
  | nil => exact absurd hx a7
  | cons a r => simp
 show (if (Lib.itoa k).length < 1 ∨ 9 < (Lib.itoa k).length ∨ (106 : UInt8) ≠ 106 then 0 else if (aF5 (Lib.itoa k)).2.2 ≠ 0 ∨ ((aF5 (Lib.itoa k)).2.1 : Int) ≠ ((Lib.itoa k).length : Int) then 0 else (aF5 (Lib.itoa k)).1) = k
 rw [if_neg (by rintro (h2 | h2 | h2); omega; omega; exact h2 rfl), hp];rw [if_neg (by rw [he]; rintro (h2 | h2); exact h2 rfl; exact h2 rfl)]
theorem cM9 : bH8 aO9 = 0 := by decide +kernel
theorem bY5 : bH8 aA3 = 0 := by decide +kernel
section
variable {α : Type}
theorem cJ4 {n : Nm} {f : α} : ∀ {fs : List (Nm × α)}, aG8 fs -> aA9 n fs = some f -> fs.Perm ((n, f) :: aB6 n fs)
 | [], _, h => by cases h
 | x :: r, ha, h => by
  have hr := List.pairwise_cons.1 ha;unfold aA9 at h;by_cases hx : (x.1 == n) = true
  rotate_left
  ·rw [List.find?_cons_of_neg (p := fun p : Nm × α => p.1 == n) hx] at h
   have h2 : aB6 n (x :: r) = x :: aB6 n r := by unfold aB6; rw [List.filter_cons_of_pos (by simpa using hx)]
   rw [h2];exact ((cJ4 hr.2 h).cons x).trans (List.Perm.swap _ _ _)
  rw [List.find?_cons_of_pos (p := fun p : Nm × α => p.1 == n) hx] at h;simp at h
  subst h;have hd : aB6 n r = r := by
   unfold aB6;rw [List.filter_eq_self];intro q hq;have h1 := hr.1 q hq;simp only [beq_iff_eq] at hx;rw [hx] at h1;simp only [Bool.not_eq_true', beq_eq_false_iff_ne];intro e;rw [e, WideAt.bytes_irrefl n] at h1;cases h1
  have h2 : aB6 n (x :: r) = aB6 n r := by unfold aB6; rw [List.filter_cons_of_neg (by simp [hx])]
  rw [h2, hd];simp only [beq_iff_eq] at hx;subst hx;exact List.Perm.refl _
theorem bH3 {n : Nm} {l : List (Nm × α)} (h : ∀ q ∈ l, q.1 ≠ n) : aA9 n l = none := by
 unfold aA9;rw [List.find?_eq_none.2 (fun q hq => by simpa using h q hq)]
 rfl
end
theorem dN2 {α : Type} {l : List (Nm × α)} (hr : aG8 l) {k : Nat} (hk : k < l.length) : aA9 l[k].1 l = some l[k].2 := by
 induction l generalizing k with
 | nil => simp at hk
 | cons y r ih =>
  have h1 := List.pairwise_cons.1 hr;cases k with
  | zero => simp [aA9]
  | succ k =>
   have a7 : k < r.length := by simpa using hk
   have a8 : ¬ (y.1 == r[k].1) = true := fun e => by
    have e' : y.1 = r[k].1 := by simpa using e
    have := h1.1 _ (lX a7);rw [e', show bytesBefore r[k].1 r[k].1 = false from WideAt.bytes_irrefl _] at this;cases this
   have := ih h1.2 a7;unfold aA9 at this ⊢;have hf : (y.1 == r[k].1) = false := by simpa using a8
   simp only [List.getElem_cons_succ, List.find?_cons, hf];exact this
theorem bO4 {a b : List (Nm × FD)} (h : a.Perm b) : ∀ {x : List (aB1 × Bool)}, aC6 a = some x -> ∃ y, aC6 b = some y ∧ x.Perm y := by
 induction h with
 | nil => intro x h; exact ⟨x, h, List.Perm.refl _⟩
 | cons q _ ih =>
  intro x h;rw [aC6] at h;rw [aC6];split at h
  ·rename_i h0
   rw [if_pos h0];exact ih h
  rename_i h0
  rw [if_neg h0];split at h
  ·cases h
  rename_i s hs
  rename_i l1 l2 _ _
  cases hl : aC6 l1 with
  | none => rw [hl] at h; cases h
  | some z =>
   rw [hl] at h;injection h with h
   obtain ⟨y, h1, h2⟩ := ih hl;rw [h1];exact ⟨s :: y, rfl, by rw [<- h]; exact h2.cons s⟩
 | swap q r l =>
  intro x h;simp only [aC6] at h ⊢;by_cases h1 : bH8 r.1 = 0
  ·by_cases h2 : bH8 q.1 = 0
   ·simp only [h1, h2, if_true] at h ⊢; exact ⟨x, h, List.Perm.refl _⟩
   simp only [h1, h2, if_true, if_false] at h ⊢; exact ⟨x, h, List.Perm.refl _⟩
  by_cases h2 : bH8 q.1 = 0
  ·simp only [h1, h2, if_true, if_false] at h ⊢; exact ⟨x, h, List.Perm.refl _⟩
  simp only [h1, h2, if_false] at h ⊢;cases hr : aD0 (bH8 r.1) r.2.b with
  | none => rw [hr] at h; cases hq : aD0 (bH8 q.1) q.2.b <;> rw [hq] at h <;> first | cases h | (simp at h)
  | some s =>
   cases hq : aD0 (bH8 q.1) q.2.b with
   | none => rw [hr, hq] at h; simp at h
   | some t =>
    rw [hr, hq] at h;cases hl : aC6 l with
    | none => rw [hl] at h; simp at h
    | some z =>
     rw [hl] at h;simp only [Option.map_some, Option.some.injEq] at h;subst h;exact ⟨t :: s :: z, by simp [hl], List.Perm.swap _ _ _⟩
 | trans _ _ ih1 ih2 =>
  intro x h;obtain ⟨y, h1, h2⟩ := ih1 h;obtain ⟨z, h3, h4⟩ := ih2 h1;exact ⟨z, h3, h2.trans h4⟩
structure FX (fs : List (Nm × FD)) (R : List (Int × FD)) (mo nw : Option FD) : Prop where
 rise : aG8 fs
 ks : R.Pairwise fun a b => a.1 < b.1
 num : ∀ r ∈ R, 1 <= r.1 ∧ r.1 <= 999999999
 has : ∀ r ∈ R, aA9 (aA1 r.1) fs = some r.2
 only : ∀ q ∈ fs, q.1 = aO9 ∨ q.1 = aA3 ∨ ∃ r ∈ R, q.1 = aA1 r.1
 meta_ : aA9 aO9 fs = mo
 new : aA9 aA3 fs = nw
section
variable {fs : List (Nm × FD)} {R A B : List (Int × FD)} {mo nw : Option FD}
theorem FX.empty : FX [] [] none none := ⟨List.Pairwise.nil, List.Pairwise.nil, fun _ h => (by cases h), fun _ h => (by cases h), fun _ h => (by cases h), rfl, rfl⟩
theorem bH6 {a b : Int} (ha : 1 <= a) (hb : 1 <= b) (h : a ≠ b) : aA1 a ≠ aA1 b := fun e => h (aP5 (by omega) (by omega) e)
theorem FX.rm {r : Int × FD} (h : FX fs (A ++ r :: B) mo nw) : FX (aB6 (aA1 r.1) fs) (A ++ B) mo nw := by
 have a8 := h.num r (by simp);have a7 : ∀ x ∈ A ++ B, aA1 x.1 ≠ aA1 r.1 := fun x hx => by
  have a9 := h.num x (by
   rcases List.mem_append.1 hx with h1 | h1
   ·simp [h1]
   simp [h1])
  refine bH6 a9.1 a8.1 ?_;rcases List.mem_append.1 hx with h1 | h1
  ·have := (List.pairwise_append.1 h.ks).2.2 x h1 r (by simp)
   omega
  have := (List.pairwise_cons.1 (List.pairwise_append.1 h.ks).2.1).1 x h1;omega
 refine ⟨aU1 h.rise, ?_, fun x hx => h.num x ?_, fun x hx => ?_, fun q hq => ?_, ?_, ?_⟩
 ·exact h.ks.sublist (List.Sublist.append_left (List.sublist_cons_self r B) A)
 ·rcases List.mem_append.1 hx with h1 | h1
  ·simp [h1]
  simp [h1]
 ·rw [aE7 (a7 x hx)]
  refine h.has x ?_;rcases List.mem_append.1 hx with h1 | h1
  ·simp [h1]
  simp [h1]
 ·obtain ⟨h1, h2⟩ := aI5.1 hq
  rcases h.only q h1 with h3 | h3 | ⟨x, hx, h3⟩
  ·exact .inl h3
  ·exact .inr (.inl h3)
  refine .inr (.inr ⟨x, ?_, h3⟩);rcases List.mem_append.1 hx with h4 | h4
  ·simp [h4]
  rcases List.mem_cons.1 h4 with rfl | h5
  ·exact absurd h3 h2
  simp [h5]
 ·rw [aE7 (Ne.symm (aM8 r.1))]; exact h.meta_
 rw [aE7 (Ne.symm (aJ9 r.1))]; exact h.new
theorem FX.put {k : Int} {f' : FD} (h : FX fs R mo nw) (hk : 1 <= k ∧ k <= 999999999) (hA : ∀ r ∈ A, r.1 < k) (hR : R = A ∨ ∃ f, R = A ++ [(k, f)]) : FX (aB3 (aA1 k) f' fs) (A ++ [(k, f')]) mo nw := by
 have a7 : ∀ r ∈ A, r ∈ R := fun r hr => by
  rcases hR with e | ⟨f, e⟩
  ·rw [e]; exact hr
  rw [e]; simp [hr]
 have a8 : ∀ r ∈ R, r ∈ A ∨ r.1 = k := fun r hr => by
  rcases hR with e | ⟨f, e⟩
  ·rw [e] at hr; exact .inl hr
  rw [e] at hr;rcases List.mem_append.1 hr with h1 | h1
  ·exact .inl h1
  exact .inr (by rw [List.mem_singleton.1 h1])
 have a9 : A.Pairwise fun a b => a.1 < b.1 := by
  rcases hR with e | ⟨f, e⟩
  ·rw [<- e]; exact h.ks
  have := h.ks;rw [e] at this;exact (List.pairwise_append.1 this).1
 refine ⟨aQ2 h.rise, ?_, fun x hx => ?_, fun x hx => ?_, fun q hq => ?_, ?_, ?_⟩
 ·rw [List.pairwise_append]
  exact ⟨a9, List.pairwise_singleton _ _, fun a ha b hb => by rw [List.mem_singleton.1 hb]; exact hA a ha⟩
 ·rcases List.mem_append.1 hx with h1 | h1
  ·exact h.num x (a7 x h1)
  rw [List.mem_singleton.1 h1]; exact hk
 ·rcases List.mem_append.1 hx with h1 | h1
  ·rw [aE3 (bH6 (h.num x (a7 x h1)).1 hk.1 (by have := hA x h1; omega))]
   exact h.has x (a7 x h1)
  rw [List.mem_singleton.1 h1];exact aL7 _ _ _
 ·rcases asPut_mem.1 hq with h1 | ⟨h1, h2⟩
  ·exact .inr (.inr ⟨(k, f'), by simp, by rw [h1]⟩)
  rcases h.only q h1 with h3 | h3 | ⟨x, hx, h3⟩
  ·exact .inl h3
  ·exact .inr (.inl h3)
  rcases a8 x hx with h4 | h4
  ·exact .inr (.inr ⟨x, by simp [h4], h3⟩)
  rw [h4] at h3;exact absurd h3 h2
 ·rw [aE3 (Ne.symm (aM8 k))]; exact h.meta_
 rw [aE3 (Ne.symm (aJ9 k))]; exact h.new
theorem FX.delNew (h : FX fs R mo nw) : FX (aB6 aA3 fs) R mo none := by
 refine ⟨aU1 h.rise, h.ks, h.num, fun x hx => ?_, fun q hq => ?_, ?_, bO1 _ _⟩
 ·rw [aE7 (aJ9 x.1)]; exact h.has x hx
 ·exact h.only q (aI5.1 hq).1
 rw [aE7 (by decide)]; exact h.meta_
theorem FX.putNew {f : FD} (h : FX fs R mo nw) : FX (aB3 aA3 f fs) R mo (some f) := by
 refine ⟨aQ2 h.rise, h.ks, h.num, fun x hx => ?_, fun q hq => ?_, ?_, aL7 _ _ _⟩
 ·rw [aE3 (aJ9 x.1)]; exact h.has x hx
 ·rcases asPut_mem.1 hq with h1 | ⟨h1, h2⟩
  ·exact .inr (.inl (by rw [h1]))
  exact h.only q h1
 rw [aE3 (by decide)]; exact h.meta_
theorem FX.putMeta {f : FD} (h : FX fs R mo nw) : FX (aB3 aO9 f fs) R (some f) nw := by
 refine ⟨aQ2 h.rise, h.ks, h.num, fun x hx => ?_, fun q hq => ?_, aL7 _ _ _, ?_⟩
 ·rw [aE3 (aM8 x.1)]; exact h.has x hx
 ·rcases asPut_mem.1 hq with h1 | ⟨h1, h2⟩
  ·exact .inl (by rw [h1])
  exact h.only q h1
 rw [aE3 (by decide)]; exact h.new
theorem aW0 : ∀ {l : List (Nm × FD)}, (∀ q ∈ l, bH8 q.1 = 0) -> aC6 l = some []
 | [], _ => rfl
 | q :: r, h => by
  rw [aC6, if_pos (h q List.mem_cons_self)];exact aW0 fun x hx => h x (List.mem_cons_of_mem _ hx)
theorem FX.list (g : Int × FD -> aB1 × Bool) : ∀ {R : List (Int × FD)} {fs : List (Nm × FD)}, FX fs R mo nw -> (∀ r ∈ R, aD0 r.1 r.2.b = some (g r)) -> ∃ l, aC6 fs = some l ∧ (R.map g).Perm l
 | [], fs, h, _ => ⟨[], aW0 (fun q hq => by
   rcases h.only q hq with e | e | ⟨x, hx, _⟩
   ·rw [e]; exact cM9
   ·rw [e]; exact bY5
   cases hx), List.Perm.refl _⟩
 | r :: R, fs, h, hg => by
  have hp := cJ4 h.rise (h.has r List.mem_cons_self);have h2 : FX (aB6 (aA1 r.1) fs) R mo nw := FX.rm (A := []) h;obtain ⟨l, h3, h4⟩ := FX.list g h2 (fun x hx => hg x (List.mem_cons_of_mem _ hx));have hn := h.num r List.mem_cons_self;have h5 : aC6 ((aA1 r.1, r.2) :: aB6 (aA1 r.1) fs) = some (g r :: l) := by
   rw [aC6, cM8 hn, if_neg (by omega)];simp only [hg r List.mem_cons_self, h3, Option.map_some]
  obtain ⟨y, h6, h7⟩ := bO4 hp.symm h5;exact ⟨y, h6, (h4.cons (g r)).trans h7⟩
theorem FX.listJ_ {pw : PWD} {room : Int} (h : FX fs R mo nw) (g : Int × FD -> aB1 × Bool) (hg : ∀ r ∈ R, aD0 r.1 r.2.b = some (g r)) (hk : ∀ r ∈ R, (g r).1.k = r.1) (a7 : aK0 (R.map g) = true) : aX5 ⟨pw, room, fs⟩ = some (R.map g) := by
 obtain ⟨l, h1, h2⟩ := h.list g hg;rw [bQ6 (d := ⟨pw, room, fs⟩) h1 h2 (by
  rw [List.pairwise_map];refine List.Pairwise.imp_of_mem (fun {a b} ha hb hlt => ?_) h.ks;rw [hk a ha, hk b hb];omega), if_pos a7]
theorem FX.rms {pw : PWD} {room : Int} (hc : aI6 pw) : ∀ {A B : List (Int × FD)} {fs : List (Nm × FD)}, FX fs (A ++ B) mo nw -> ∃ fs', aG1 (A.map fun r => aC3.rm (aA1 r.1)) ⟨pw, room, fs⟩ = (0, ⟨pw, room, fs'⟩) ∧ FX fs' B mo nw
 | [], B, fs, h => ⟨fs, rfl, h⟩
 | r :: A, B, fs, h => by
  have h1 := h.has r (by simp);have h2 : FX (aB6 (aA1 r.1) fs) (A ++ B) mo nw := FX.rm (A := []) h;obtain ⟨fs', h3, h4⟩ := FX.rms hc h2;refine ⟨fs', ?_, h4⟩;rw [mG, aF6, bA5 hc h1, if_pos rfl];exact h3
def bA7 : Option FD -> Option (Int × Int)
 | none => some (0, 0)
 | some f => if (aD7 f.b).2.2 ≠ 0 ∨ (aD7 f.b).2.1 ≠ f.b.length then none else match aD9 2 (aD7 f.b).1 with
  | ([t, v], some []) => some (t, v)
  | _ => none
theorem bZ7 {pw : PWD} {room : Int} (hc : aI6 pw) (h : FX fs R mo nw) : aH2 ⟨pw, room, fs⟩ = bA7 mo := by
 have hr : DkD.read ⟨pw, room, fs⟩ aO9 = match mo with | none => ([], 51) | some f => (f.b, 0) := by
  unfold DkD.read;rw [if_neg (by rw [hc.1]; simp)];simp only [h.meta_];cases mo <;> rfl
 unfold aH2;rw [hr];cases mo with
 | none => rfl
 | some f => rfl
def dG4 (l : List (aB1 × Bool)) : List (aB1 × Bool) := match l.getLast? with
 | none => l
 | some f => if f.1.ends.isEmpty = true then l.dropLast else l
def dF4 : Option (aB1 × Bool) -> List aC3
 | none => []
 | some f => (if f.2 = true then [.cut (aA1 f.1.k) f.1.long] else []) ++ [.sync (aA1 f.1.k)]
theorem bT9 (l : List (aB1 × Bool)) (m : Int × Int) (d : DkD) : aG3 l m d = ((aG1 (((l.take (l.length - (aE0 [] (l.map (·.1))).length)).map fun f => aC3.rm (aA1 f.1.k)) ++ dF4 l.getLast?) d).1, if (aG1 (((l.take (l.length - (aE0 [] (l.map (·.1))).length)).map fun f => aC3.rm (aA1 f.1.k)) ++ dF4 l.getLast?) d).1 = 0 then some ⟨m.1, m.2, aE0 [] (l.map (·.1)), 0⟩ else none, (aG1 (((l.take (l.length - (aE0 [] (l.map (·.1))).length)).map fun f => aC3.rm (aA1 f.1.k)) ++ dF4 l.getLast?) d).2) := by
 unfold aG3;cases l.getLast? <;> rfl
theorem aT0 {pw : PWD} {room : Int} (hc : aI6 pw) (h : FX fs R mo nw) (g : Int × FD -> aB1 × Bool) (hk : ∀ r ∈ R, (g r).1.k = r.1) (a8 : ∀ r ∈ R, 0 <= (g r).1.long ∧ (g r).1.long <= r.2.b.length) (m : Int × Int) : ∃ d', aG3 (R.map g) m ⟨pw, room, fs⟩ = (0, some ⟨m.1, m.2, aE0 [] ((R.map g).map (·.1)), 0⟩, d') := by
 obtain ⟨st, f9, d8, a9⟩ := bF0 ((R.map g).map (·.1)) R.length (by simp);rw [List.take_of_length_le (by simp)] at a9;have b8 : (R.map g).length - (aE0 [] ((R.map g).map (·.1))).length = st := by
  rw [a9];simp only [lZ, lU];omega
 have a7 : ((R.map g).take st).map (fun f => aC3.rm (aA1 f.1.k)) = (R.take st).map fun r => aC3.rm (aA1 r.1) := by
  rw [<- List.map_take, List.map_map];exact List.map_congr_left fun r hr => by show aC3.rm (aA1 (g r).1.k) = _; rw [hk r (List.mem_of_mem_take hr)]
 obtain ⟨f8, h1, h2⟩ := FX.rms (room := room) hc (A := R.take st) (B := R.drop st) (by rw [List.take_append_drop]; exact h);have key : (aG1 ((R.take st).map (fun r => aC3.rm (aA1 r.1)) ++ dF4 (R.map g).getLast?) ⟨pw, room, fs⟩).1 = 0 := by
  rw [aK7 _ _ _ (by rw [h1]), h1];rcases mJ R with h0 | ⟨A, r, h0⟩
  ·rw [h0]; rfl
  rw [mA] at h0;have hr : r ∈ R.drop st := by
   have h5 := d8 (by rw [h0]; simp);rw [h0, lT, List.length_singleton] at h5;rw [h0, List.drop_append_of_le_length (by omega)];simp
  have e9 : r ∈ R := List.mem_of_mem_drop hr;have h6 := h2.has r hr;have h7 : (R.map g).getLast? = some (g r) := by rw [h0]; simp
  rw [h7];show (aG1 ((if (g r).2 = true then [aC3.cut (aA1 (g r).1.k) (g r).1.long] else []) ++ [aC3.sync (aA1 (g r).1.k)]) ⟨pw, room, f8⟩).1 = 0
  rw [hk r e9];have f7 : ∀ fs' f, aA9 (aA1 r.1) fs' = some f -> (aG1 [aC3.sync (aA1 r.1)] ⟨pw, room, fs'⟩).1 = 0 := fun fs' f hf => by
   rw [aF6, bQ5 hc hf]
   rfl
  split
  ·rw [List.cons_append, List.nil_append, aF6, bY6 hc h6 (a8 r e9), if_pos rfl]
   exact f7 _ _ (aL7 _ _ _)
  exact f7 _ _ h6
 rw [bT9, b8, a7];exact ⟨_, by rw [key, if_pos rfl]⟩
theorem FX.open_ {pw : PWD} {room : Int} (hc : aI6 pw) (h : FX fs R mo nw) (g : Int × FD -> aB1 × Bool) (hg : ∀ r ∈ R, aD0 r.1 r.2.b = some (g r)) (hk : ∀ r ∈ R, (g r).1.k = r.1) (d8 : aK0 (R.map g) = true) (a7 : ∀ r ∈ R, 0 <= (g r).1.long ∧ (g r).1.long <= r.2.b.length) {t v : Int} (hm : bA7 mo = some (t, v)) :
  ∃ d', aL5 ⟨pw, room, fs⟩ = (0, some ⟨t, v, aE0 [] ((dG4 (R.map g)).map (·.1)), 0⟩, d') := by
 obtain ⟨a8, a9, h1, h2⟩ : ∃ a8 a9, bC9 ⟨pw, room, fs⟩ = (0, ⟨pw, room, a8⟩) ∧ FX a8 R mo a9 := by
  unfold bC9;split
  ·rename_i hh
   cases hn : aA9 aA3 fs with
   | none =>
    obtain ⟨q, hq, he⟩ := List.any_eq_true.1 hh;unfold aA9 at hn;simp only [Option.map_eq_none_iff, List.find?_eq_none] at hn;exact absurd he (hn q hq)
   | some f => exact ⟨_, _, bA5 hc hn, h.delNew⟩
  exact ⟨fs, nw, rfl, h⟩
 rw [cK0 (d := ⟨pw, room, fs⟩) hc.1, h1, if_pos rfl, bL8, bZ7 hc h2, hm, h2.listJ_ g hg hk d8];show ∃ d', aQ7 (R.map g) (t, v) ⟨pw, room, a8⟩ = _
 unfold aQ7 dG4;rcases mJ R with h0 | ⟨A, r, h0⟩
 ·subst h0
  exact aT0 hc h2 g hk a7 (t, v)
 rw [mA] at h0;subst h0;have h7 : ((A ++ [r]).map g).getLast? = some (g r) := by simp
 rw [h7];simp only;split
 ·have h8 := h2.has r (by simp)
  have h9 : FX (aB6 (aA1 r.1) a8) (A ++ []) mo a9 := FX.rm (B := []) h2;rw [List.append_nil] at h9;have b8 : DkD.remove ⟨pw, room, a8⟩ (aA1 (g r).1.k) = (0, ⟨pw, room, aB6 (aA1 r.1) a8⟩) := by
   rw [hk r (by simp)];exact bA5 hc h8
  rw [b8, if_pos rfl, mE, mG, List.map_nil, List.dropLast_concat];exact aT0 hc h9 g (fun x hx => hk x (by simp [hx])) (fun x hx => a7 x (by simp [hx])) (t, v)
 exact aT0 hc h2 g hk a7 (t, v)
def bP0 (f f' : FD) : Prop := ∃ m, f.safe <= m ∧ m <= f.b.length ∧ f' = ⟨f.b.take m, m⟩
theorem cR1 (keep : List Int) (i : Nat) {f : FD} (h : f.safe <= f.b.length) : bP0 f (aL9 keep i f) := by
 unfold aL9;split
 ·have h1 : 0 <= keep.getD i 0 % ((f.b.length : Int) - f.safe + 1) := Int.emod_nonneg _ (by omega)
  have h2 : keep.getD i 0 % ((f.b.length : Int) - f.safe + 1) < (f.b.length : Int) - f.safe + 1 := Int.emod_lt_of_pos _ (by omega);exact ⟨f.safe + (keep.getD i 0 % ((f.b.length : Int) - f.safe + 1)).toNat, by omega, by omega, rfl⟩
 exact ⟨f.safe, lR _, h, by rw [Nat.add_zero]⟩
theorem bP0.safe {f f' : FD} (h : bP0 f f') (hs : f.safe = f.b.length) : f' = f := by
 obtain ⟨m, h1, h2, rfl⟩ := h;obtain rfl : m = f.b.length := by omega
 rw [List.take_of_length_le (lR _)];obtain ⟨b, s⟩ := f;simp only at hs;rw [hs]
theorem aR2 (keep : List Int) (fs : List (Nm × FD)) : aJ5 keep fs.length fs = fs.mapIdx fun i q => (q.1, aL9 keep i q.2) := by
 unfold aJ5;refine List.ext_getElem (by simp) fun i h1 h2 => ?_
 rw [List.getElem_mapIdx, List.getElem_mapIdx, if_pos (by simpa using h1)]
theorem bS3 (keep : List Int) {n : Nm} {f : FD} (hr : aG8 fs) (hs : f.safe <= f.b.length) (h : aA9 n fs = some f) : ∃ f', aA9 n (aJ5 keep fs.length fs) = some f' ∧ bP0 f f' := by
 obtain ⟨i, hi, he⟩ := List.getElem_of_mem (aC7 h);have a9 : aG8 (aJ5 keep fs.length fs) := by
  rw [aR2];unfold aG8 at hr ⊢;rw [List.pairwise_iff_getElem] at hr ⊢;intro a b ha hb a7;rw [List.getElem_mapIdx, List.getElem_mapIdx];exact hr a b (by simpa using ha) (by simpa using hb) a7
 have a8 : i < (aJ5 keep fs.length fs).length := by rw [aN6]; exact hi
 have h1 := dN2 a9 a8;have h2 : (aJ5 keep fs.length fs)[i] = (n, aL9 keep i f) := by
  simp only [aR2, List.getElem_mapIdx, he]
 rw [h2] at h1;exact ⟨_, h1, cR1 keep i hs⟩
theorem cD1 (keep : List Int) (hr : aG8 fs) : aG8 (aJ5 keep fs.length fs) := by
 rw [aR2];unfold aG8 at hr ⊢;rw [List.pairwise_iff_getElem] at hr ⊢;intro a b ha hb a7;rw [List.getElem_mapIdx, List.getElem_mapIdx];exact hr a b (by simpa using ha) (by simpa using hb) a7
theorem bI5 (keep : List Int) {q : Nm × FD} (h : q ∈ aJ5 keep fs.length fs) : ∃ f, (q.1, f) ∈ fs := by
 rw [aR2] at h;obtain ⟨i, hi, he⟩ := List.getElem_of_mem h;rw [List.getElem_mapIdx] at he;refine ⟨(fs[i]'(by simpa using hi)).2, ?_⟩;rw [<- he];exact lX _
theorem cR3 (keep : List Int) {n : Nm} (h : aA9 n fs = none) : aA9 n (aJ5 keep fs.length fs) = none := by
 refine bH3 fun q hq e => ?_
 obtain ⟨f, hf⟩ := bI5 keep hq;unfold aA9 at h;simp only [Option.map_eq_none_iff, List.find?_eq_none] at h;exact h _ hf (by simpa using e)
theorem FX.boot (h : FX fs R mo nw) (keep : List Int) (hs : (∀ r ∈ R, r.2.safe <= r.2.b.length) ∧ (∀ f, mo = some f -> f.safe = f.b.length) ∧ ∀ f, nw = some f -> f.safe <= f.b.length) :
  ∃ (β : Int × FD -> FD) (nw' : Option FD), FX (aJ5 keep fs.length fs) (R.map fun r => (r.1, β r)) mo nw' ∧ ∀ r ∈ R, bP0 r.2 (β r) := by
 refine ⟨fun r => (aA9 (aA1 r.1) (aJ5 keep fs.length fs)).getD r.2, aA9 aA3 (aJ5 keep fs.length fs), ⟨cD1 keep h.rise, ?_, ?_, ?_, ?_, ?_, rfl⟩, ?_⟩
 ·rw [List.pairwise_map]; exact h.ks
 ·intro r hr
  obtain ⟨x, hx, rfl⟩ := List.mem_map.1 hr;exact h.num x hx
 ·intro r hr
  obtain ⟨x, hx, rfl⟩ := List.mem_map.1 hr;obtain ⟨f', h1, h2⟩ := bS3 keep h.rise (hs.1 x hx) (h.has x hx);show aA9 (aA1 x.1) _ = some (Option.getD (aA9 (aA1 x.1) _) x.2)
  rw [h1]
  rfl
 ·intro q hq
  obtain ⟨f, hf⟩ := bI5 keep hq;rcases h.only _ hf with h1 | h1 | ⟨x, hx, h1⟩
  ·exact .inl h1
  ·exact .inr (.inl h1)
  exact .inr (.inr ⟨_, List.mem_map.2 ⟨x, hx, rfl⟩, h1⟩)
 ·cases hm : mo with
  | none => exact cR3 keep (h.meta_.trans hm)
  | some f =>
   have a7 := hs.2.1 f hm;obtain ⟨f', h1, h2⟩ := bS3 keep h.rise (by omega) (h.meta_.trans hm);rw [h1, h2.safe a7]
 intro r hr;obtain ⟨f', h1, h2⟩ := bS3 keep h.rise (hs.1 r hr) (h.has r hr);show bP0 r.2 ((aA9 (aA1 r.1) (aJ5 keep fs.length fs)).getD r.2)
 rw [h1];exact h2
end
end
section
open Oct
def Out (room : Int) (al : List aC3) (fs : List (Nm × FD)) (S : List (Nm × FD) -> Prop) (fs1 : List (Nm × FD)) : Prop :=
 ∀ pw : PWD, pw.off = false -> (∃ pw' : PWD, pw'.off = false ∧ (aI6 pw -> aI6 pw') ∧ aG1 al ⟨pw, room, fs⟩ = (0, ⟨pw', room, fs1⟩)) ∨ ∃ (pw' : PWD) (fs' : List (Nm × FD)), ¬ aI6 pw ∧ aG1 al ⟨pw, room, fs⟩ = (50, ⟨pw', room, fs'⟩) ∧ S fs'
section
variable {room : Int} {fs fs1 fs2 : List (Nm × FD)} {S : List (Nm × FD) -> Prop} {al bl : List aC3}
theorem Out.nil : Out room [] fs S fs := fun pw h => .inl ⟨pw, h, id, rfl⟩
theorem Out.mono {S' : List (Nm × FD) -> Prop} (h : Out room al fs S fs1) (hS : ∀ x, S x -> S' x) : Out room al fs S' fs1 := fun pw hp => (h pw hp).imp id fun ⟨pw', fs', h1, h2, h3⟩ => ⟨pw', fs', h1, h2, hS _ h3⟩
theorem cA3 (a b : List aC3) (d : DkD) : (aG1 a d).1 ≠ 0 -> aG1 (a ++ b) d = aG1 a d := by
 induction a generalizing d with
 | nil => intro h; exact absurd rfl h
 | cons x r ih =>
  intro h;rw [aF6] at h;rw [List.cons_append, aF6, aF6];split
  ·rename_i h0
   rw [if_pos h0] at h;exact ih _ h
  rfl
theorem Out.append (h : Out room al fs S fs1) (k : Out room bl fs1 S fs2) : Out room (al ++ bl) fs S fs2 := fun pw hp => by
 rcases h pw hp with ⟨pw', h1, h2, h3⟩ | ⟨pw', fs', h1, h2, h3⟩
 ·rcases k pw' h1 with ⟨pw2, k1, k2, k3⟩ | ⟨pw2, fs', k1, k2, k3⟩
  ·exact .inl ⟨pw2, k1, fun hc => k2 (h2 hc), by rw [aK7 _ _ _ (by rw [h3]), h3]; exact k3⟩
  exact .inr ⟨pw2, fs', fun hc => k1 (h2 hc), by rw [aK7 _ _ _ (by rw [h3]), h3]; exact k2, k3⟩
 exact .inr ⟨pw', fs', h1, by rw [cA3 _ _ _ (by rw [h2]; show (50 : Int) ≠ 0; decide), h2], h3⟩
theorem cut_cases {pw : PWD} (h : pw.off = false) : (pw.cut.1 = false ∧ pw.cut.2.2.off = false ∧ (aI6 pw -> aI6 pw.cut.2.2)) ∨ (pw.cut.1 = true ∧ ¬ aI6 pw) := by
 unfold PWD.cut;split
 ·rename_i h1
  exact .inl ⟨rfl, h, id⟩
 rename_i h1
 split
 ·exact .inl ⟨rfl, h, fun hc => absurd hc.2 h1⟩
 exact .inr ⟨rfl, fun hc => h1 hc.2⟩
theorem bL7 (a : aC3) (d : DkD) : aG1 [a] d = a.run d := by
 rw [aF6];split
 ·rename_i h
  show (0, (a.run d).2) = a.run d
  rw [<- h]
 rfl
theorem bN5 {pw : PWD} (hp : pw.off = false) (fs1 : List (Nm × FD)) (h0 : S fs) (h1 : S fs1) : (∃ pw' : PWD, pw'.off = false ∧ (aI6 pw -> aI6 pw') ∧ DkD.whole ⟨pw, room, fs⟩ fs1 = (0, ⟨pw', room, fs1⟩)) ∨ ∃ (pw' : PWD) (fs' : List (Nm × FD)), ¬ aI6 pw ∧ DkD.whole ⟨pw, room, fs⟩ fs1 = (50, ⟨pw', room, fs'⟩) ∧ S fs' := by
 unfold DkD.whole;rcases cut_cases hp with ⟨h2, h3, h4⟩ | ⟨h2, h3⟩
 ·exact .inl ⟨_, h3, h4, by simp only [h2, Bool.false_eq_true, if_false, true_or, if_true]⟩
 refine .inr ⟨pw.cut.2.2, _, h3, by simp only [h2, if_true]; rfl, ?_⟩;split
 ·exact h1
 exact h0
theorem dH5 {n : Nm} {f : FD} (hf : aA9 n fs = some f) (h0 : S fs) (h1 : S (aB6 n fs)) : Out room [.rm n] fs S (aB6 n fs) := fun pw hp => by
 have he : aG1 [aC3.rm n] ⟨pw, room, fs⟩ = DkD.whole ⟨pw, room, fs⟩ (aB6 n fs) := by
  rw [bL7];show DkD.remove _ n = _
  unfold DkD.remove;rw [if_neg (by rw [hp]; simp)];simp only [hf]
 rw [he];exact bN5 hp _ h0 h1
theorem dK2 {n : Nm} {f : FD} {k : Int} (hf : aA9 n fs = some f) (hk : 0 <= k ∧ k <= f.b.length) (h0 : S fs) (h1 : S (aB3 n ⟨f.b.take k.toNat, min f.safe k.toNat⟩ fs)) : Out room [.cut n k] fs S (aB3 n ⟨f.b.take k.toNat, min f.safe k.toNat⟩ fs) := fun pw hp => by
 have he : aG1 [aC3.cut n k] ⟨pw, room, fs⟩ = DkD.whole ⟨pw, room, fs⟩ (aB3 n ⟨f.b.take k.toNat, min f.safe k.toNat⟩ fs) := by
  rw [bL7];show DkD.cutF _ n k = _
  unfold DkD.cutF;rw [if_neg (by rw [hp]; simp)];simp only [hf];rw [if_neg (by omega)]
 rw [he];exact bN5 hp _ h0 h1
theorem dK3 {f : FD} (hf : aA9 aA3 fs = some f) (h0 : S fs) (h1 : S (aB3 aO9 f (aB6 aA3 fs))) : Out room [.ren] fs S (aB3 aO9 f (aB6 aA3 fs)) := fun pw hp => by
 have he : aG1 [aC3.ren] ⟨pw, room, fs⟩ = DkD.whole ⟨pw, room, fs⟩ (aB3 aO9 f (aB6 aA3 fs)) := by
  rw [bL7];show DkD.rename _ aA3 aO9 = _
  unfold DkD.rename;rw [if_neg (by rw [hp]; simp)];simp only [hf];rw [if_neg (by decide)]
 rw [he];exact bN5 hp _ h0 h1
theorem bU2 {n : Nm} {f : FD} (hf : aA9 n fs = some f) (h0 : S fs) : Out room [.sync n] fs S (aB3 n ⟨f.b, f.b.length⟩ fs) := fun pw hp => by
 have he : aG1 [aC3.sync n] ⟨pw, room, fs⟩ = if pw.cut.1 = true then (50, ⟨pw.cut.2.2, room, fs⟩) else (0, ⟨pw.cut.2.2, room, aB3 n ⟨f.b, f.b.length⟩ fs⟩) := by
  rw [bL7];show DkD.sync _ n = _
  unfold DkD.sync;rw [if_neg (by rw [hp]; simp)];simp only [hf]
 rw [he];rcases cut_cases hp with ⟨h2, h3, h4⟩ | ⟨h2, h3⟩
 ·exact .inl ⟨_, h3, h4, by rw [if_neg (by rw [h2]; simp)]⟩
 exact .inr ⟨_, _, h3, by rw [if_pos h2], h0⟩
theorem dL7 (part : Int) (p : List UInt8) : ∃ m, cQ4 part p = p.take m ∧ m <= p.length := by
 unfold cQ4;have h1 : 0 <= part % ((p.length : Int) + 1) := Int.emod_nonneg _ (by omega);have h2 : part % ((p.length : Int) + 1) < (p.length : Int) + 1 := Int.emod_lt_of_pos _ (by omega);exact ⟨_, rfl, by omega⟩
theorem cF2 {n : Nm} (hn : n ≠ [] ∧ n.length <= 32) (p : List UInt8) (hr : (p.length : Int) <= room - aB7 fs) (h0 : ∀ m, m <= p.length -> S (aB3 n ⟨((aA9 n fs).getD ⟨[], 0⟩).b ++ p.take m, ((aA9 n fs).getD ⟨[], 0⟩).safe⟩ fs)) :
  Out room [.app n p] fs S (aB3 n ⟨((aA9 n fs).getD ⟨[], 0⟩).b ++ p, ((aA9 n fs).getD ⟨[], 0⟩).safe⟩ fs) := fun pw hp => by
 have he : aG1 [aC3.app n p] ⟨pw, room, fs⟩ = (if pw.cut.1 = true then 50 else 0, ⟨pw.cut.2.2, room, aB3 n ⟨((aA9 n fs).getD ⟨[], 0⟩).b ++ (if pw.cut.1 = true then cQ4 pw.cut.2.1 p else p), ((aA9 n fs).getD ⟨[], 0⟩).safe⟩ fs⟩) := by
  rw [bL7];show DkD.append _ n [p] = _
  unfold DkD.append;rw [if_neg (by rw [hp]; simp), if_neg (by intro h; rcases h with h | h; exact hn.1 h; omega)];have a7 : fits (DkD.free ⟨pw, room, fs⟩) [p] = true := by
   unfold fits fits DkD.free;simp
   exact hr
  rw [a7, if_neg (by simp)];simp only [List.flatten_cons, List.flatten_nil, List.append_nil]
 rw [he];rcases cut_cases hp with ⟨h2, h3, h4⟩ | ⟨h2, h3⟩
 ·exact .inl ⟨_, h3, h4, by simp only [h2, Bool.false_eq_true, if_false]⟩
 obtain ⟨m, h5, h6⟩ := dL7 pw.cut.2.1 p;exact .inr ⟨_, _, h3, by simp only [h2, if_true, h5]; rfl, h0 m h6⟩
end
end
section
open Oct
section
variable {α : Type} {R : α -> α -> Prop}
def aJ1 (R : α -> α -> Prop) : List α -> Prop
 | a :: b :: r => R a b ∧ aJ1 R (b :: r)
 | _ => True
theorem bL2 {a : α} {r : List α} (h : aJ1 R (a :: r)) : aJ1 R r := by
 cases r with
 | nil => trivial
 | cons b r => exact h.2
theorem aZ0 : ∀ (n : Nat) {l : List α}, aJ1 R l -> aJ1 R (l.drop n)
 | 0, _, h => h
 | n + 1, [], h => h
 | n + 1, a :: r, h => aZ0 n (bL2 h)
theorem aI3 : ∀ {l : List α} {s : α}, aJ1 R (l ++ [s]) ↔ aJ1 R l ∧ ∀ t, l.getLast? = some t -> R t s
 | [], s => by simp [aJ1]
 | [a], s => by simp [aJ1]
 | a :: b :: r, s => by
  have ih := aI3 (l := b :: r) (s := s);show (R a b ∧ aJ1 R ((b :: r) ++ [s])) ↔ (R a b ∧ aJ1 R (b :: r)) ∧ _
  rw [ih, and_assoc];have hl : (a :: b :: r).getLast? = (b :: r).getLast? := by simp [List.getLast?_cons_cons]
  rw [hl]
theorem aS7 : ∀ {l m : List α}, aJ1 R (l ++ m) -> aJ1 R l
 | l, [], h => by rw [List.append_nil] at h; exact h
 | l, x :: m, h => by
  have h1 : aJ1 R ((l ++ [x]) ++ m) := by rw [List.append_assoc]; exact h
  exact (aI3.1 (aS7 h1)).1
termination_by l m => m.length
theorem bL3 {l : List α} (n : Nat) (h : aJ1 R l) : aJ1 R (l.take n) := by
 rw [<- List.take_append_drop n l] at h;exact aS7 h
end
def dC8 (a b : aB1) : Prop := b.k = a.k + 1
def dJ1 (a b : aB1) : Prop := b.goesOn a = true
structure aE9 (ss : List aB1) : Prop where
 seg : ∀ s ∈ ss, aT6 s ∧ 1 <= s.k ∧ s.k <= 999999999
 ks : aJ1 dC8 ss
 go : aJ1 dJ1 ss
section
variable {A B : List aB1} {s t : aB1}
theorem aE9.nil : aE9 [] := ⟨fun _ h => (by cases h), trivial, trivial⟩
theorem aE9.left (h : aE9 (A ++ B)) : aE9 A := ⟨fun s hs => h.seg s (by simp [hs]), aS7 h.ks, aS7 h.go⟩
theorem aE9.take (h : aE9 A) (n : Nat) : aE9 (A.take n) := ⟨fun s hs => h.seg s (List.mem_of_mem_take hs), bL3 n h.ks, bL3 n h.go⟩
theorem aE9.drop (h : aE9 A) (n : Nat) : aE9 (A.drop n) := ⟨fun s hs => h.seg s (List.mem_of_mem_drop hs), aZ0 n h.ks, aZ0 n h.go⟩
theorem aE9.snoc (h : aE9 A) (hs : aT6 s ∧ 1 <= s.k ∧ s.k <= 999999999) (hl : ∀ t, A.getLast? = some t -> s.k = t.k + 1 ∧ s.goesOn t = true) : aE9 (A ++ [s]) :=
 ⟨fun x hx => by
  rcases List.mem_append.1 hx with h1 | h1
  ·exact h.seg x h1
  rw [List.mem_singleton.1 h1]; exact hs, aI3.2 ⟨h.ks, fun t ht => (hl t ht).1⟩, aI3.2 ⟨h.go, fun t ht => (hl t ht).2⟩⟩
theorem aE9.last (h : aE9 (A ++ [s])) : ∀ t, A.getLast? = some t -> s.k = t.k + 1 ∧ s.goesOn t = true := fun t ht => ⟨(aI3.1 h.ks).2 t ht, (aI3.1 h.go).2 t ht⟩
theorem aE9.setLast (h : aE9 (A ++ [s])) (ht : aT6 t) (h1 : t.k = s.k) (h2 : t.first = s.first) (h3 : t.term = s.term) : aE9 (A ++ [t]) := by
 have hs := h.seg s (by simp);refine h.left.snoc ⟨ht, by rw [h1]; exact hs.2⟩ fun x hx => ?_
 have h4 := h.last x hx;refine ⟨by rw [h1]; exact h4.1, ?_⟩;have h5 := h4.2;unfold aB1.goesOn at h5 ⊢;rw [h2, h3];exact h5
theorem aJ3 : ∀ {A : List aB1}, aJ1 dJ1 A -> aE0 [] A = A := by
 intro A;induction hn : A.length generalizing A with
 | zero => intro _; rw [mD hn]; rfl
 | succ n ih =>
  intro h;rcases mJ A with h0 | ⟨r, s, h0⟩
  ·rw [h0] at hn; cases hn
  rw [mA] at h0;subst h0;obtain ⟨h1, h2⟩ := aI3.1 h;rw [aL3, ih (by simpa using hn) h1];unfold aT1;cases hl : r.getLast? with
  | none =>
   rw [List.getLast?_eq_none_iff] at hl;rw [hl]
   rfl
  | some t =>
   have h3 : s.goesOn t = true := h2 t hl;simp only [h3, if_true]
theorem cE7 (h : aJ1 dJ1 A) (hs : ∀ t, A.getLast? = some t -> s.goesOn t = false) : aE0 [] (A ++ [s]) = [s] := by
 rw [aL3, aJ3 h];unfold aT1;cases hl : A.getLast? with
 | none => rfl
 | some t => simp only [hs t hl, Bool.false_eq_true, if_false]
theorem bF1 : ∀ {A : List aB1} {y : aB1} {t : Bool}, aJ1 dC8 (A ++ [y]) -> (∀ a ∈ A, a.ends ≠ []) -> aK0 (A.map (fun s => (s, false)) ++ [(y, t)]) = true
 | [], y, t, _, _ => rfl
 | [a], y, t, h, he => by
  have h1 : y.k = a.k + 1 := h.1;have h2 : a.ends.isEmpty = false := by
   have := he a (by simp);cases hx : a.ends with
   | nil => exact absurd hx this
   | cons _ _ => rfl
  show (decide (a.k = y.k - 1) && ! false && ! a.ends.isEmpty && aK0 [(y, t)]) = true
  rw [decide_eq_true (show a.k = y.k - 1 by omega), h2]
  rfl
 | a :: b :: r, y, t, h, he => by
  have h1 : b.k = a.k + 1 := h.1;have h2 : a.ends.isEmpty = false := by
   have := he a (by simp);cases hx : a.ends with
   | nil => exact absurd hx this
   | cons _ _ => rfl
  have h3 := bF1 (A := b :: r) (y := y) (t := t) h.2 (fun x hx => he x (List.mem_cons_of_mem _ hx));show (decide (a.k = b.k - 1) && ! false && ! a.ends.isEmpty && aK0 ((b :: r).map (fun s => (s, false)) ++ [(y, t)])) = true
  rw [decide_eq_true (show a.k = b.k - 1 by omega), h2, h3]
  rfl
end
def fdS (b : List UInt8) : FD := ⟨b, b.length⟩
def aH4 (s : aB1) : Int × FD := (s.k, fdS (aC8 s))
def gR (r : Int × FD) : aB1 × Bool := (aD0 r.1 r.2.b).getD (⟨0, 0, 0, [], []⟩, false)
theorem cJ3 {s : aB1} (h : aT6 s) : aD0 (aH4 s).1 (aH4 s).2.b = some (gR (aH4 s)) ∧ gR (aH4 s) = (s, false) := by
 have h1 : aD0 (aH4 s).1 (aH4 s).2.b = some (s, false) := bF6 h;have h2 : gR (aH4 s) = (s, false) := by unfold gR; rw [h1]; rfl
 exact ⟨by rw [h1, h2], h2⟩
section
variable {pw : PWD} {room : Int} {fs : List (Nm × FD)} {mo nw : Option FD} {A : List aB1} {t v : Int}
theorem aT6.ne {s : aB1} (h : aT6 s) : s.ends ≠ [] := by
 rw [h.ends];unfold aM1;rw [aI2];simp
theorem dN1 (h : ∀ s ∈ A, aT6 s) : (A.map aH4).map gR = A.map fun s => (s, false) := by
 rw [List.map_map];exact List.map_congr_left fun s hs => (cJ3 (h s hs)).2
theorem dP7 {r : Int × FD} {x : aB1 × Bool} (h : aD0 r.1 r.2.b = some x) (hk : x.1.k = r.1) : aD0 r.1 r.2.b = some (gR r) ∧ (gR r).1.k = r.1 ∧ gR r = x := by
 have h2 : gR r = x := by unfold gR; rw [h]; rfl
 rw [h2];exact ⟨h, hk, rfl⟩
theorem bZ5 (hc : aI6 pw) {k : Int} {f : FD} {x : aB1} {tn : Bool} (h : FX fs (A.map aH4 ++ [(k, f)]) mo nw) (hA : aE9 A) (hx : aD0 k f.b = some (x, tn)) (a9 : x.k = k) (b8 : 0 <= x.long ∧ x.long <= f.b.length) (a7 : ∀ y, A.getLast? = some y -> k = y.k + 1) (hm : bA7 mo = some (t, v)) :
  ∃ d', aL5 ⟨pw, room, fs⟩ = (0, some ⟨t, v, aE0 [] (if x.ends.isEmpty = true then A else A ++ [x]), 0⟩, d') := by
 have hX := dP7 (r := (k, f)) hx a9;have a8 : (A.map aH4 ++ [(k, f)]).map gR = A.map (fun s => (s, false)) ++ [(x, tn)] := by
  rw [mE, dN1 fun s hs => (hA.seg s hs).1, List.map_singleton, hX.2.2]
 obtain ⟨d', hd⟩ := FX.open_ (room := room) hc h gR (fun r hr => by
  rcases List.mem_append.1 hr with h1 | h1
  ·obtain ⟨s, hs, rfl⟩ := List.mem_map.1 h1
   exact (cJ3 (hA.seg s hs).1).1
  ·rw [List.mem_singleton.1 h1]; exact hX.1) (fun r hr => by
  rcases List.mem_append.1 hr with h1 | h1
  ·obtain ⟨s, hs, rfl⟩ := List.mem_map.1 h1
   rw [(cJ3 (hA.seg s hs).1).2]; rfl
  ·rw [List.mem_singleton.1 h1]; exact hX.2.1) (by
  rw [a8];exact bF1 (aI3.2 ⟨hA.ks, fun y hy => by show x.k = y.k + 1; rw [a9]; exact a7 y hy⟩) fun a ha => (hA.seg a ha).1.ne) (fun r hr => by
  rcases List.mem_append.1 hr with h1 | h1
  ·obtain ⟨s, hs, rfl⟩ := List.mem_map.1 h1
   rw [(cJ3 (hA.seg s hs).1).2];have h2 := (hA.seg s hs).1.long;show 0 <= s.long ∧ s.long <= ((aC8 s).length : Int)
   omega
  rw [List.mem_singleton.1 h1, hX.2.2]; exact b8) hm
 refine ⟨d', ?_⟩;rw [hd, a8];have ht : (dG4 (A.map (fun s => (s, false)) ++ [(x, tn)])).map (·.1) = if x.ends.isEmpty = true then A else A ++ [x] := by
  unfold dG4;rw [List.getLast?_append];simp only [List.getLast?_singleton, Option.some_or];split
  ·rw [List.dropLast_concat, List.map_map]
   exact List.map_id' A
  rw [mE, List.map_map, List.map_singleton];rw [show A.map ((fun x : aB1 × Bool => x.1) ∘ fun s => (s, false)) = A from List.map_id' A]
 rw [ht]
theorem cO7 (hc : aI6 pw) (h : FX fs (A.map aH4) mo nw) (hA : aE9 A) (hm : bA7 mo = some (t, v)) : ∃ d', aL5 ⟨pw, room, fs⟩ = (0, some ⟨t, v, A, 0⟩, d') := by
 rcases mJ A with h0 | ⟨B, s, h0⟩
 ·subst h0
  obtain ⟨d', hd⟩ := FX.open_ (room := room) hc h gR (fun r hr => by cases hr) (fun r hr => by cases hr) rfl (fun r hr => by cases hr) hm;exact ⟨d', hd⟩
 rw [mA] at h0;subst h0;have hs := hA.seg s (by simp);have hl := hs.1.long;have h2 := bZ5 (room := room) (A := B) hc (k := s.k) (f := fdS (aC8 s)) (x := s) (tn := false) (by rw [mE] at h; exact h) hA.left (bF6 hs.1) rfl (by show 0 <= s.long ∧ s.long <= ((aC8 s).length : Int); omega) (fun y hy => (hA.last y hy).1) hm;have he : s.ends.isEmpty = false := by
  cases hx : s.ends with
  | nil => exact absurd hx hs.1.ne
  | cons _ _ => rfl
 rw [he, if_neg (by simp), aJ3 hA.go] at h2;exact h2
theorem bF3 {a b : Int} (ha : 0 <= a ∧ a <= 9223372036854775807) (hb : 0 <= b ∧ b <= 9223372036854775807) (n : Nat) : bA7 (some ⟨aP4 a b, n⟩) = some (a, b) := by
 have hn : aH1 [a, b] = enc (fold1 a) ++ (enc (fold1 b) ++ []) := by unfold aH1; simp
 have hl := aI7 (z := [a, b]) (by
  intro n hn;simp only [List.mem_cons, List.not_mem_nil, or_false] at hn;rcases hn with rfl | rfl
  ·exact ⟨by omega, ha.2⟩
  exact ⟨by omega, hb.2⟩)
 simp only [mC, List.length_nil] at hl;have hp : aP4 a b = aE1 (aH1 [a, b]) := aK9 (by omega);have ho : aD7 (aE1 (aH1 [a, b])) = (aH1 [a, b], (aE1 (aH1 [a, b])).length, 0) := by
  have h1 := aX1 (aH1 [a, b]) [] (by omega);rw [List.append_nil] at h1;exact h1
 unfold bA7;rw [hp];simp only [ho];rw [if_neg (by rintro (h | h); exact h rfl; exact h rfl)];have h2 : aD9 2 (aH1 [a, b]) = ([a, b], some []) := by
  rw [hn, aW1 ha, aW1 hb]
  rfl
 rw [h2]
end
end
section
open Go.RowKit Go.Maps Oct
def EG (G : Nat -> Prop) (nE : Nat) (W : World) (x : Nat) : Prop := G x ∨ (nE <= x ∧ x < W.heap.size ∧ ∀ cs fz, W.heap[x]? ≠ some (.cells cs 98 fz))
theorem EG.same {G : Nat -> Prop} {nE : Nat} {W W' : World} {row : Option Nat} (hg : W.grownBy W' row) (a7 : (∀ x, G x -> x < nE) ∧ nE <= W.heap.size) (hr : ∀ r, row = some r -> nE <= r ∧ ∃ cs fz, W.heap[r]? = some (.cells cs 98 fz)) : (∀ x, EG G nE W x -> W'.heap[x]? = W.heap[x]?) ∧ ∀ x, EG G nE W x -> EG G nE W' x := by
 have h1 : ∀ x, EG G nE W x -> W'.heap[x]? = W.heap[x]? := fun x hx => by
  have hs : x < W.heap.size := by
   rcases hx with h | h
   ·have := a7.1 x h; have := a7.2; omega
   exact h.2.1
  refine hg.block x hs fun e => ?_
  obtain ⟨h2, cs, fz, h3⟩ := hr x e.symm;rcases hx with h | h
  ·have := a7.1 x h; omega
  exact h.2.2 cs fz h3
 refine ⟨h1, fun x hx => ?_⟩;rcases hx with h | h
 ·exact .inl h
 refine .inr ⟨h.1, by have := hg.size; omega, fun cs fz => ?_⟩;rw [h1 x (.inr h)];exact h.2.2 cs fz
theorem EG.below {G : Nat -> Prop} {nE : Nat} {W W' : World} (hb : Below W.heap.size W W') (hlt : (∀ x, G x -> x < nE) ∧ nE <= W.heap.size) : (∀ x, EG G nE W x -> W'.heap[x]? = W.heap[x]?) ∧ ∀ x, EG G nE W x -> EG G nE W' x :=
 EG.same (aA5 hb none) hlt (fun r h => by cases h)
theorem EG.fresh {G : Nat -> Prop} {nE : Nat} {W : World} {b : Nat} {T : TypeId} {cs : Array Value} (hb : Blk W b T cs) (h1 : nE <= b) (hT : T ≠ 98) : EG G nE W b := .inr ⟨h1, hb.lt, fun cs' fz e => by
 have e2 := e.symm.trans hb;injection e2 with e2
 injection e2 with _ e2 _
 exact hT e2.symm⟩
structure aP7 (W : World) (G : Nat -> Prop) (nE gj g : Nat) (dv : Value) (vs : List Value) (al : List aC3) : Prop where
 own : Own W nE 98 dv vs
 len : vs.length = al.length
 acts : ∀ i (h : i < vs.length) (h' : i < al.length), aK3 W (EG G nE W) gj g vs[i] al[i]
 fns : ∀ v ∈ vs, v.oneCell' = true
section
variable {W W' : World} {G : Nat -> Prop} {nE gj g : Nat} {dv : Value} {vs : List Value} {al : List aC3}
theorem aP7.nil : aP7 W G nE gj g (.slice none 0 0) [] [] := ⟨Own.nil _ _ _, rfl, fun i h => by simp at h, fun v hv => by cases hv⟩
theorem aP7.below (h : aP7 W G nE gj g dv vs al) (hb : Below W.heap.size W W') (a7 : (∀ x, G x -> x < nE) ∧ nE <= W.heap.size) : aP7 W' G nE gj g dv vs al := by
 obtain ⟨h1, h2⟩ := EG.below (G := G) (nE := nE) hb a7;exact ⟨Own.below h.own hb (lR _), h.len, fun i h3 h4 => ((h.acts i h3 h4).keep hb.size h1).mono h2, h.fns⟩
theorem aP7.other {row : Option Nat} (h : aP7 W G nE gj g dv vs al) (hg : W.grownBy W' row) (a7 : (∀ x, G x -> x < nE) ∧ nE <= W.heap.size) (hr : ∀ r, row = some r -> nE <= r) (a8 : dv.ownBlock = none ∨ dv.ownBlock ≠ row) (hE : ∀ i (h : i < vs.length) (h' : i < al.length), aK3 W (fun x => EG G nE W x ∧ row ≠ some x) gj g vs[i] al[i]) : aP7 W' G nE gj g dv vs al := by
 have h1 : ∀ x, EG G nE W x ∧ row ≠ some x -> W'.heap[x]? = W.heap[x]? := fun x hx => by
  have hs : x < W.heap.size := by
   rcases hx.1 with h | h
   ·have := a7.1 x h; have := a7.2; omega
   exact h.2.1
  exact hg.block x hs fun e => hx.2 e.symm
 refine ⟨Own.kept h.own hg a8, h.len, fun i h3 h4 => ((hE i h3 h4).keep hg.size h1).mono fun x hx => ?_, h.fns⟩;rcases hx.1 with h | h
 ·exact .inl h
 refine .inr ⟨h.1, by have := hg.size; omega, fun cs fz => ?_⟩;rw [h1 x hx];exact h.2.2 cs fz
theorem aP7.push {W2 : World} {v dv' : Value} {a : aC3} (h : aP7 W G nE gj g dv vs al) (a8 : (∀ x, G x -> x < nE) ∧ nE <= W.heap.size) (ha : aK3 W (EG G nE W) gj g v a) (h1 : v.oneCell' = true) (hg : W.grownBy W2 dv.ownBlock) (a7 : Own W2 nE 98 dv' (vs ++ [v])) : aP7 W2 G nE gj g dv' (vs ++ [v]) (al ++ [a]) := by
 obtain ⟨k1, k2⟩ := EG.same (G := G) (nE := nE) hg a8 (fun r e => by
  obtain ⟨cs, hc⟩ := aD1 h.own e;exact ⟨(h.own.lt r e).1, cs, _, hc⟩)
 refine ⟨a7, by rw [lT, lT, h.len]; rfl, fun i h3 h4 => ?_, fun x hx => ?_⟩
 ·by_cases hi : i < vs.length
  ·rw [List.getElem_append_left hi, List.getElem_append_left (by rw [<- h.len]; exact hi)]
   exact ((h.acts i hi _).keep hg.size k1).mono k2
  have e : i = vs.length := by rw [lT] at h3; simp at h3; omega
  subst e;have e2 : (al ++ [a])[vs.length] = a := by simp [h.len]
  rw [e2];simp only [List.getElem_concat_length];exact (ha.keep hg.size k1).mono k2
 rcases List.mem_append.1 hx with hx | hx
 ·exact h.fns x hx
 obtain rfl := List.mem_singleton.1 hx;exact h1
end
theorem aP7.pushes {W W2 : World} {G : Nat -> Prop} {nE gj g : Nat} {dv dv' : Value} {vs us : List Value} {al bl : List aC3} (h : aP7 W G nE gj g dv vs al) (a8 : (∀ x, G x -> x < nE) ∧ nE <= W.heap.size) (a9 : us.length = bl.length) (ha : ∀ i (h : i < us.length) (h' : i < bl.length), aK3 W (EG G nE W) gj g us[i] bl[i]) (h1 : ∀ u ∈ us, u.oneCell' = true) (hg : W.grownBy W2 dv.ownBlock) (a7 : Own W2 nE 98 dv' (vs ++ us)) : aP7 W2 G nE gj g dv' (vs ++ us) (al ++ bl) := by
 obtain ⟨k1, k2⟩ := EG.same (G := G) (nE := nE) hg a8 (fun r e => by
  obtain ⟨cs, hc⟩ := aD1 h.own e;exact ⟨(h.own.lt r e).1, cs, _, hc⟩)
 refine ⟨a7, by rw [lT, lT, h.len, a9], fun i h3 h4 => ?_, fun x hx => ?_⟩
 ·by_cases hi : i < vs.length
  ·rw [List.getElem_append_left hi, List.getElem_append_left (by rw [<- h.len]; exact hi)]
   exact ((h.acts i hi _).keep hg.size k1).mono k2
  rw [List.getElem_append_right (by omega), List.getElem_append_right (by rw [<- h.len]; omega)];have h5 : i - vs.length < us.length := by rw [lT] at h3; omega
  have h6 := ha (i - vs.length) h5 (by omega);have e : i - al.length = i - vs.length := by rw [h.len]
  simp only [e];exact (h6.keep hg.size k1).mono k2
 rcases List.mem_append.1 hx with hx | hx
 ·exact h.fns x hx
 exact h1 x hx
theorem aP7.row {W : World} {G : Nat -> Prop} {nE gj g : Nat} {dv : Value} {vs : List Value} {al : List aC3} (h : aP7 W G nE gj g dv vs al) {r : Nat} (hr : dv.ownBlock = some r) : nE <= r ∧ r < W.heap.size ∧ ∃ cs fz, W.heap[r]? = some (.cells cs 98 fz) := by
 obtain ⟨cs, hc⟩ := aD1 h.own hr;exact ⟨(h.own.lt r hr).1, (h.own.lt r hr).2, cs, _, hc⟩
structure JnK (w : World) (base g m gj : Nat) (F : Nat -> Prop) (d : DkD) (j : JnP) (es : List (Nm × FE)) : Prop where
 disk : aB0 w base g m d.pw d.room es
 fs : sec FE.f es = d.fs
 jn : JAt w F gj g j
 apart : ∀ k, F k -> base <= k ∧ k < w.heap.size ∧ k ≠ gj ∧ ¬ aA8 g m es k
 lo : base <= gj
def cC5 (w : World) (base g m gj : Nat) (es : List (Nm × FE)) (F : Nat -> Prop) (r : Int × JnP × DkD) (e : Ending) (w' : World) : Prop :=
 e = .returned (.int .i64 r.1) ∧ ∃ es' F', JnK w' base g m gj F' r.2.2 r.2.1 es' ∧ Fr (fun k => aA8 g m es k ∨ k = gj) w w' ∧ (∀ k, aA8 g m es' k -> aA8 g m es k ∨ w.heap.size <= k) ∧ ∀ k, F' k -> F k ∨ w.heap.size <= k
section
variable {w w' : World} {base g m gj : Nat} {F : Nat -> Prop} {d : DkD} {j : JnP} {es : List (Nm × FE)}
theorem JAt.blk (h : JAt w F gj g j) : ∃ sv, Blk w gj 53 #[.int .i64 j.term, .int .i64 j.vote, sv, .pointer (some ⟨g, 0, none⟩), .int .i64 j.bad] := by
 obtain ⟨⟨A, c, a7, h1, _⟩, _⟩ := h;exact ⟨_, h1⟩
theorem JnK.nj (h : JnK w base g m gj F d j es) : ¬ aA8 g m es gj := by
 obtain ⟨sv, hB⟩ := h.jn.blk;exact h.disk.not_foot hB (by decide) (by decide) (by decide)
theorem JnK.below (h : JnK w base g m gj F d j es) (hb : Below w.heap.size w w') : JnK w' base g m gj F d j es :=
 ⟨h.disk.below hb, h.fs, h.jn.below (fun k hk => (h.apart k hk).2.1) hb, fun k hk => by have := h.apart k hk; have := hb.size; exact ⟨by omega, by omega, by omega, (h.apart k hk).2.2.2⟩, h.lo⟩
theorem JnK.same (h : JnK w base g m gj F d j es) (hb : Below w.heap.size w w') {r : Int × JnP × DkD} {c : Int} (hr : r = (c, j, d)) : cC5 w base g m gj es F r (.returned (.int .i64 c)) w' := by
 subst hr;exact ⟨rfl, es, F, h.below hb, Fr.of_below _ hb, fun k hk => .inl hk, fun k hk => .inl hk⟩
theorem JnK.acted {wy : World} {es2 : List (Nm × FE)} {d' : DkD} {j' : JnP} {F' : Nat -> Prop} (h : JnK w base g m gj F d j es) (a7 : Fr (fun k => aA8 g m es k ∨ k = gj) w wy) (hD : aB0 wy base g m d'.pw d'.room es2) (hs : sec FE.f es2 = d'.fs) (a8 : ∀ k, aA8 g m es2 k -> aA8 g m es k ∨ w.heap.size <= k) (hJ : JAt wy F' gj g j') (hF : ∀ k, F' k -> (F k ∨ w.heap.size <= k) ∧ k < wy.heap.size ∧ k ≠ gj ∧ ¬ aA8 g m es2 k) (a9 : base <= w.heap.size) {r : Int × JnP × DkD} {c : Int} (hr : r = (c, j', d')) : cC5 w base g m gj es F r (.returned (.int .i64 c)) wy := by
 subst hr;refine ⟨rfl, es2, F', ⟨hD, hs, hJ, fun k hk => ?_, h.lo⟩, a7, a8, fun k hk => (hF k hk).1⟩;have h1 := hF k hk;refine ⟨?_, h1.2⟩;rcases h1.1 with h2 | h2
 ·exact (h.apart k h2).1
 omega
end
theorem JAt.turn {w : World} {F : Nat -> Prop} {gj g : Nat} {j : JnP} (h : JAt w F gj g j) : ∃ sv, Blk w gj 53 #[.int .i64 j.term, .int .i64 j.vote, sv, .pointer (some ⟨g, 0, none⟩), .int .i64 j.bad] ∧
  ∀ (w' : World) (t v bad : Int), w.heap.size <= w'.heap.size -> (∀ k, F k -> w'.heap[k]? = w.heap[k]?) -> Blk w' gj 53 #[.int .i64 t, .int .i64 v, sv, .pointer (some ⟨g, 0, none⟩), .int .i64 bad] -> (-9223372036854775808 <= t ∧ t <= 9223372036854775807) -> (-9223372036854775808 <= v ∧ v <= 9223372036854775807) -> JAt w' F gj g ⟨t, v, j.segs, bad⟩ := by
 obtain ⟨⟨A, c, a7, h1, h2, h3, h4, h5⟩, h6, h7⟩ := h;exact ⟨_, h1, fun w' t v bad hs hk hb ht hv => ⟨⟨A, c, a7, hb, h2, h3.keep hs hk, h4, fun i h h' => (h5 i h h').keep hs hk⟩, h6, ⟨ht, hv⟩⟩⟩
theorem Got.rdG {w : World} {base nE : Nat} {G : Nat -> Prop} {A : Option Addr} {n c : Nat} {l : List UInt8} (h : Got w base (.slice A n c) l) (hb : nE <= base) : RdF w (EG G nE w) A (cells l) := fun h0 => by
 obtain ⟨A', c', hv, _, _, hr⟩ := h.shape;injection hv with e1 _ _
 subst e1;obtain ⟨ad, e, hlt, hc⟩ := hr h0;rcases h.row with hr0 | ⟨g, n', cap, cur, hv2, hg, hB, _⟩
 ·injection hr0 with e2 _ _
  rw [e2] at e;cases e
 injection hv2 with e2 _ _
 rw [e2] at e;injection e with e
 subst e;refine ⟨g, 0, e2, EG.fresh hB (by omega) (by decide), hB.lt, fun j u hu => ?_⟩;rw [<- add_lit];exact hc j u hu
theorem dE1 {d : DkD} {n : Nm} : ((d.read n).1.length : Int) <= aB7 d.fs := by
 unfold DkD.read;split
 ·exact aE5 _
 split
 ·exact aE5 _
 rename_i f hf
 exact aP3 (q := (n, f)) (aC7 hf)
end
section
open Go.RowKit Oct
structure cC6 (w : World) (G : Nat) (s : aB1) (rs : List aD8) (vl ve : Value) (lo : Int) (em tn : Bool) : Prop where
 blk : Blk w G 139 #[.int .i64 s.k, .int .i64 s.first, .int .i64 s.term, vl, ve, .int .i64 lo, .bool em, .bool tn]
 ents : w.ownsRow (G + 1) 65 4 vl rs.length (aA7 rs)
 map : rs.map aD8.e = s.l
 dat : ∀ q ∈ rs, bD9 w (G + 1) q.v q.e.b
 ends : Own w (G + 1) 3 ve (s.ends.map (Value.int .i64))
section
variable {w w' : World} {G : Nat} {s : aB1} {rs : List aD8} {vl ve : Value} {lo : Int} {em tn : Bool}
theorem cC6.new (h : cC6 w G s rs vl ve lo em tn) (hb : Below w.heap.size w w') : cC6 w' G s rs vl ve lo em tn :=
 ⟨h.blk.below hb h.blk.lt, World.ownsRow.kept h.ents (aA5 hb none) (by cases vl.ownBlock <;> simp), h.map, fun q hq => (h.dat q hq).keep fun k hk => hb.block k ((h.dat q hq).lt k hk).2, Own.below h.ends hb (lR _)⟩
theorem cC6.headed (h : cC6 w G s rs vl ve lo em tn) (hg : w.grownBy w' (some G)) {f t : Int} (hB : Blk w' G 139 #[.int .i64 s.k, .int .i64 f, .int .i64 t, vl, ve, .int .i64 lo, .bool em, .bool tn]) : cC6 w' G { s with first := f, term := t } rs vl ve lo em tn :=
 ⟨hB, World.ownsRow.kept h.ents hg (by
  cases hv : vl.ownBlock with
  | none => exact .inl rfl
  | some q => exact .inr fun e => by injection e with e; have := (World.ownsRow.lt h.ents q hv).1; omega), h.map, fun q hq => (h.dat q hq).keep fun k hk => hg.block k ((h.dat q hq).lt k hk).2 (fun e => by injection e with e; have := ((h.dat q hq).lt k hk).1; omega), Own.far h.ends hg (by omega)⟩
theorem cC6.push {w2 : World} {vl' : Value} {q : aD8} (h : cC6 w G s rs vl ve lo em tn) (hq : bD9 w (G + 1) q.v q.e.b) (a8 : w2.ownsRow (G + 1) 65 4 vl' (rs.length + 1) (aA7 rs ++ aM6 q)) (hg : w.grownBy w2 vl.ownBlock) :
  cC6 (w2.setCell ⟨G, 3, none⟩ vl') G { s with l := s.l ++ [q.e] } (rs ++ [q]) vl' ve lo em tn := by
 have d8 : ∀ k, vl.ownBlock = some k -> G < k := fun k hk => by have := (World.ownsRow.lt h.ents k hk).1; omega
 have a9 : ∀ (v : Value) (l : List UInt8), bD9 w (G + 1) v l -> bD9 (w2.setCell ⟨G, 3, none⟩ vl') (G + 1) v l := fun v l hd => hd.keep fun k hk => by
  have h2 := hd.lt k hk;rw [Below.heap_setCell w2 ⟨G, 3, none⟩ vl' k (by show k ≠ G; omega)];refine hg.block k h2.2 fun e => ?_
  obtain ⟨g, cs, fz, e1, hc⟩ := hd.held;rw [hk] at e1;injection e1 with e1
  subst e1;obtain ⟨e9, a7⟩ := aD1 h.ents e.symm;rw [hc] at a7;injection a7 with a7
  injection a7 with _ h _
  exact absurd h (by decide)
 have b8 := aA0 w2 G 3 vl';have k1 : Blk w2 G 139 _ := h.blk.grown hg (fun e => by have := d8 G e.symm; omega);refine ⟨Blk.set_ k1 3 _, ?_, by rw [mE, h.map]; rfl, fun x hx => ?_, Own.far (Own.kept h.ends hg (jrow_type_ne h.ends h.ents (by decide))) b8 (by omega)⟩
 ·rw [aJ6, lT]
  have : w2.ownsRow (G + 1) 65 4 vl' (rs.length + [q].length) (aA7 rs ++ aA7 [q]) := by simpa [aA7] using a8
  exact World.ownsRow.kept this b8 (by
   cases hv : vl'.ownBlock with
   | none => exact .inl rfl
   | some k => exact .inr fun e => by injection e with e; have := (World.ownsRow.lt this k hv).1; omega)
 rcases List.mem_append.1 hx with hx | hx
 ·exact a9 _ _ (h.dat x hx)
 obtain rfl := List.mem_singleton.1 hx;exact a9 _ _ hq
end
theorem cC6.setR {w : World} {G : Nat} {s : aB1} {rs : List aD8} {vl ve : Value} {lo : Int} {em tn : Bool} (h : cC6 w G s rs vl ve lo em tn) (g i : Nat) (u : Value) (hg : g < G) : cC6 (w.setCell ⟨g, i, none⟩ u) G s rs vl ve lo em tn :=
 ⟨h.blk.far (by show G ≠ g; omega) u, World.ownsRow.kept h.ents (aA0 w g i u) (by
  cases hv : vl.ownBlock with
  | none => exact .inl rfl
  | some q => exact .inr fun e => by injection e with e; have := (World.ownsRow.lt h.ents q hv).1; omega), h.map, fun q hq => (h.dat q hq).keep fun k hk => (aA0 w g i u).block k ((h.dat q hq).lt k hk).2 (fun e => by injection e with e; have := ((h.dat q hq).lt k hk).1; omega), Own.far h.ends (aA0 w g i u) (by omega)⟩
theorem cC6.pushEnd {w w2 : World} {G : Nat} {s : aB1} {rs : List aD8} {vl ve ve' : Value} {lo : Int} {em tn : Bool} {a : Int} (h : cC6 w G s rs vl ve lo em tn) (a9 : Own w2 (G + 1) 3 ve' (s.ends.map (Value.int .i64) ++ [.int .i64 a])) (hg : w.grownBy w2 ve.ownBlock) :
  cC6 (w2.setCell ⟨G, 4, none⟩ ve') G { s with ends := s.ends ++ [a] } rs vl ve' lo em tn := by
 have e9 : ∀ k, ve.ownBlock = some k -> G < k := fun k hk => by have := (Own.lt h.ends k hk).1; omega
 have d8 := aA0 w2 G 4 ve';have k1 : Blk w2 G 139 _ := h.blk.grown hg (fun e => by have := e9 G e.symm; omega);have a7 : Own w2 (G + 1) 3 ve' ((s.ends ++ [a]).map (Value.int .i64)) := by simpa using a9
 have b8 : w2.ownsRow (G + 1) 65 4 vl rs.length (aA7 rs) := World.ownsRow.kept h.ents hg (jrow_type_ne h.ents h.ends (by decide));refine ⟨Blk.set_ k1 4 _, World.ownsRow.kept b8 d8 (by
  cases hv : vl.ownBlock with
  | none => exact .inl rfl
  | some k => exact .inr fun e => by injection e with e; have := (World.ownsRow.lt b8 k hv).1; omega), h.map, fun q hq => (h.dat q hq).keep fun k hk => ?_, Own.far a7 d8 (by omega)⟩
 have h2 := (h.dat q hq).lt k hk;rw [Below.heap_setCell w2 ⟨G, 4, none⟩ ve' k (by show k ≠ G; omega)];refine hg.block k h2.2 fun e => ?_
 obtain ⟨g, cs, fz, e1, hc⟩ := (h.dat q hq).held;rw [hk] at e1;injection e1 with e1
 subst e1;obtain ⟨f7, a8⟩ := aD1 h.ends e.symm;rw [hc] at a8;injection a8 with a8
 injection a8 with _ h _
 exact absurd h (by decide)
structure RdJ (k : Int) (b : List UInt8) (i : Nat) (s : aB1) (a : Int) : Prop where
 rd : RdI k b i s a
 ix : 0 < i -> s.last.1 = s.first + i - 2
theorem RdJ.start (k : Int) (b : List UInt8) : RdJ k b 0 ⟨k, 0, 0, [], []⟩ 0 := ⟨RdI.start k b, fun h => by omega⟩
section
variable {k : Int} {b : List UInt8} {i : Nat} {s : aB1} {a : Int}
theorem RdJ.head {p : List UInt8} {f t : Int} (h : RdJ k b 0 s a) (hp : (aH6 b).1[0]? = some p) (hpl : p.length <= 1048576) (ht : aK1 p = some (f, t)) : RdJ k b 1 ⟨k, f, t, [], [((aF2 p).length : Int)]⟩ ((aF2 p).length : Int) :=
 ⟨h.rd.head hp hpl ht, fun _ => by show f - 1 = f + ((1 : Nat) : Int) - 2; omega⟩
theorem RdJ.entry {p : List UInt8} {q : aF9} (h : RdJ k b i s a) (hi : 0 < i) (hp : (aH6 b).1[i]? = some p) (hpl : p.length <= 1048576) (ht : aH9 p s.last.1 = some q) :
  RdJ k b (i + 1) { s with l := s.l ++ [q], ends := s.ends ++ [a + (aF2 p).length] } (a + (aF2 p).length) :=
 ⟨h.rd.entry hi hp hpl ht, fun _ => by
  have h1 := bN1 ht;have h2 := h.ix hi;have h3 : aB1.last { s with l := s.l ++ [q], ends := s.ends ++ [a + (aF2 p).length] } = (q.ix, q.tm) := by unfold aB1.last; simp
  rw [h3];show q.ix = s.first + ((i + 1 : Nat) : Int) - 2
  omega⟩
end
def bP1 (o : Option aF9) (a0 a1 a2 : Int) (v : Value) (ok : Bool) (w : World) (B : Nat) : Prop := match o with
 | none => ok = false
 | some q => ok = true ∧ a0 = q.ix ∧ a1 = q.tm ∧ a2 = q.kd ∧ bD9 w B v q.b
theorem bP1.keep {o : Option aF9} {a0 a1 a2 : Int} {v : Value} {ok : Bool} {w w' : World} {B : Nat} (h : bP1 o a0 a1 a2 v ok w B) (hk : ∀ x, B <= x -> x < w.heap.size -> w'.heap[x]? = w.heap[x]?) : bP1 o a0 a1 a2 v ok w' B := by
 cases o with
 | none => exact h
 | some q => exact ⟨h.1, h.2.1, h.2.2.1, h.2.2.2.1, h.2.2.2.2.keep fun x hx => hk x (h.2.2.2.2.lt x hx).1 (h.2.2.2.2.lt x hx).2⟩
theorem bP1.mono {o : Option aF9} {a0 a1 a2 : Int} {v : Value} {ok : Bool} {w : World} {B B' : Nat} (h : bP1 o a0 a1 a2 v ok w B) (hB : B' <= B) : bP1 o a0 a1 a2 v ok w B' := by
 cases o with
 | none => exact h
 | some q => exact ⟨h.1, h.2.1, h.2.2.1, h.2.2.2.1, h.2.2.2.2.mono hB⟩
end
section
open Go.RowKit Oct
structure RqR where
 s : aB1
 tn : Bool
 lo : Int
 em : Bool
 al : Option Addr
 cl : Nat
 ae : Option Addr
 ce : Nat
 rs : List aD8
def RqR.vl (q : RqR) : Value := .slice q.al q.rs.length q.cl
def RqR.ve (q : RqR) : Value := .slice q.ae q.s.ends.length q.ce
def RqR.o (q : RqR) : aB1 × Bool := (q.s, q.tn)
instance : Inhabited RqR := ⟨⟨⟨0, 0, 0, [], []⟩, false, 0, false, none, 0, none, 0, []⟩⟩
structure dA2 (w : World) (B : Nat) (q : RqR) : Prop where
 ents : w.ownsRow B 65 4 q.vl q.rs.length (aA7 q.rs)
 map : q.rs.map aD8.e = q.s.l
 dat : ∀ x ∈ q.rs, bD9 w B x.v x.e.b
 ends : Own w B 3 q.ve (q.s.ends.map (Value.int .i64))
section
variable {w w' : World} {B : Nat} {q : RqR}
theorem dA2.below (h : dA2 w B q) (hb : Below w.heap.size w w') : dA2 w' B q :=
 ⟨World.ownsRow.kept h.ents (aA5 hb none) (by cases q.vl.ownBlock <;> simp), h.map, fun x hx => (h.dat x hx).keep fun k hk => hb.block k ((h.dat x hx).lt k hk).2, Own.below h.ends hb (lR _)⟩
theorem dA2.mono (h : dA2 w B q) {B' : Nat} (hb : B' <= B) : dA2 w B' q := ⟨bK0 h.ents hb, h.map, fun x hx => (h.dat x hx).mono hb, Own.mono h.ends hb⟩
theorem dA2.grown (h : dA2 w B q) {base n : Nat} {v : Value} {xs : List Value} (hown : w.ownsRow base 139 8 v n xs) (hg : w.grownBy w' v.ownBlock) : dA2 w' B q :=
 ⟨World.ownsRow.kept h.ents hg (jrow_type_ne h.ents hown (by decide)), h.map, fun x hx => (h.dat x hx).keep fun k hk => hg.block k ((h.dat x hx).lt k hk).2 (fun e => by
  obtain ⟨g, cs, fz, e1, hc⟩ := (h.dat x hx).held;rw [hk] at e1;injection e1 with e1
  subst e1;obtain ⟨cs', hc'⟩ := aD1 hown e.symm;rw [hc] at hc';injection hc' with hc'
  injection hc' with _ h _
  exact absurd h (by decide)), Own.kept h.ends hg (jrow_type_ne h.ends hown (by decide))⟩
end
end
section
open Go.RowKit Oct
theorem cK8 {P : Program} {e : TypeId} {i : TypeInfo} {n : Nat} (hi : P.info? e = some i) (hz : i.size = n) (w : World) : (sizeOf e).run P w = .ok n w := by
 simp [sizeOf, typeInfo, hi, hz]
theorem aZ2 {P : Program} {T e : TypeId} {z : Value} {size bytes : Nat} (ht : P.underlying T = some (.slice e)) (a7 : (P.info? e).map (fun i => (i.zero, i.size, i.bytes)) = some (some z, size, bytes)) (A : Option Addr) (len cap hi : Nat) (h1 : hi <= cap) (X : Int) (hX : X = (hi : Int)) (w : World) :
  (Instr.slice T (.slice A len cap) none (some (.int .i64 X)) none).run P w = .ok (.slice A hi cap) w := by
 obtain ⟨i, a9, hz, a8, b8⟩ := info_parts a7;subst hX;rw [run_slice_h w T A len cap (by rw [ht]; simp [Program.elem, ht]) .i64 hi (by omega) (by omega)];have he : P.elem T = e := by simp [Program.elem, ht]
 rw [he, cK8 a9 a8];have hm : A.map (·.add 0) = A := by cases A <;> simp [Addr.add]
 simp [sliced, Result.andThen, hm]
def dI6 (A : Option Addr) (lo cap size : Nat) : Option Addr := if cap = lo then A else A.map (·.add (lo * size))
theorem aT2 {P : Program} {T e : TypeId} {z : Value} {size bytes : Nat} (ht : P.underlying T = some (.slice e)) (a7 : (P.info? e).map (fun i => (i.zero, i.size, i.bytes)) = some (some z, size, bytes)) (A : Option Addr) (len cap lo : Nat) (h1 : lo <= len) (X : Int) (hX : X = (lo : Int)) (w : World) :
  (Instr.slice T (.slice A len cap) (some (.int .i64 X)) none none).run P w = .ok (.slice (dI6 A lo cap size) (len - lo) (cap - lo)) w := by
 obtain ⟨i, a9, hz, a8, b8⟩ := info_parts a7;subst hX;rw [run_slice_l w T A len cap (by rw [ht]; simp [Program.elem, ht]) .i64 lo (by omega) (by omega)];have he : P.elem T = e := by simp [Program.elem, ht]
 rw [he, cK8 a9 a8];simp [sliced, dI6, Result.andThen]
end
section
open Go.RowKit Go.Maps Oct
def dI1 (now was : List aF9) (keep : Int) (l : List aF9) : Prop := ∃ n : Nat, keep <= n ∧ n <= was.length ∧ n <= now.length ∧ now.take n = was.take n ∧ (now.length = n ∨ ((n : Int) = keep ∧ now.length - n <= l.length ∧ now.drop n = l.take (now.length - n)))
theorem cE0 {w : World} {F : Nat -> Prop} {A : Option Addr} {rs : List aD8} (h : RdF w F A (aA7 rs)) (k : Nat) : RdF w F A (aA7 (rs.take k)) := by
 rw [<- aV2];exact h.take _
theorem cS9 {w : World} {F : Nat -> Prop} {A : Option Addr} {rs : List aD8} {c k : Nat} (h : RdF w F A (aA7 rs)) (hk : k <= rs.length) (hc : rs.length <= c) : RdF w F (dI6 A k c 4) (aA7 (rs.drop k)) := fun h0 => by
 rw [aC0, lZ] at h0;obtain ⟨b, o, rfl, hF, hlt, hcl⟩ := h (by rw [aC0]; omega);refine ⟨b, o + k * 4, by unfold dI6; rw [if_neg (by omega)]; simp [Addr.add], hF, hlt, fun j u hu => ?_⟩;have h1 : (aA7 rs)[k * 4 + j]? = some u := by
  have h2 : aA7 rs = aA7 (rs.take k) ++ aA7 (rs.drop k) := by rw [<- aJ6, List.take_append_drop]
  rw [h2, List.getElem?_append_right (by rw [aC0, lV]; omega)];rw [show k * 4 + j - (aA7 (rs.take k)).length = j by rw [aC0, lV]; omega];exact hu
 rw [Nat.add_assoc];exact hcl _ u h1
theorem cU7 {F1 F2 F3 : Nat -> Prop} (A B C : Option Addr) (ra rb rc : List aD8) (c1 c2 c3 : Nat) (keep : Int) (w : World) (ha : RdF w F1 A (aA7 ra)) (hb : RdF w F2 B (aA7 rb)) (hc : RdF w F3 C (aA7 rc)) (da : ∀ q ∈ ra, bB7 w F1 q.v q.e.b) (db : ∀ q ∈ rb, bB7 w F2 q.v q.e.b) (dc : ∀ q ∈ rc, bB7 w F3 q.v q.e.b)
  (a9 : ∀ k, F1 k -> k < w.heap.size) (i1 : ∀ k, F2 k -> k < w.heap.size) (i2 : ∀ k, F3 k -> k < w.heap.size) (l7 : ra.length <= c1 ∧ c1 <= 9223372036854775807 ∧ ra.length <= 1099511627776) (l8 : rb.length <= c2 ∧ c2 <= 9223372036854775807 ∧ rb.length <= 1099511627776) (l9 : rc.length <= c3 ∧ c3 <= 9223372036854775807 ∧ rc.length <= 1099511627776)
  (m2 : ∀ q ∈ ra, q.e.b.length <= 140737488351232) (m9 : ∀ q ∈ rb, q.e.b.length <= 140737488351232) (n6 : ∀ q ∈ rc, q.e.b.length <= 140737488351232) (m7 : -9223372036854775808 <= keep ∧ keep <= 9223372036854775807) (hk : dI1 (ra.map aD8.e) (rb.map aD8.e) keep (rc.map aD8.e)) :
  Calls Tryz.prog 24 #[.slice A ra.length c1, .slice B rb.length c2, .int .i64 keep, .slice C rc.length c3] w fun e w' => e = .returned (.bool true) ∧ Below w.heap.size w w' := by
 obtain ⟨n0, k1, k2, k3, k4, k5⟩ := hk;rw [lU] at k2 k3 k5;rw [lU] at k5;have i6 : Hid (∀ W, Below w.heap.size w W -> ∀ k, k <= ra.length -> k <= rb.length -> Calls Tryz.prog 23 #[.slice A k c1, .slice B k c2] W fun e w' => e = .returned (.bool (aP6 ((ra.map aD8.e).take k) ((rb.map aD8.e).take k))) ∧ Below W.heap.size W w') := qZ (fun W hW k h1 h2 => by
  have h3 := bL1 A B (ra.take k) (rb.take k) c1 c2 W ((cE0 ha k).keep hW.size (fun x hx => hW.block x (a9 x hx))) ((cE0 hb k).keep hW.size (fun x hx => hW.block x (i1 x hx))) (fun q hq => (da q (List.mem_of_mem_take hq)).keep hW.size (fun x hx => hW.block x (a9 x hx))) (fun q hq => (db q (List.mem_of_mem_take hq)).keep hW.size (fun x hx => hW.block x (i1 x hx))) (fun x hx => by have := a9 x hx; have := hW.size; omega) (fun x hx => by have := i1 x hx; have := hW.size; omega) (by rw [lV]; omega) (by rw [lV]; omega) (fun q hq => m2 q (List.mem_of_mem_take hq)) (fun q hq => m9 q (List.mem_of_mem_take hq));rw [lV, lV, Nat.min_eq_left h1, Nat.min_eq_left h2, List.map_take, List.map_take] at h3;exact h3)
 have b8 : Hid (∀ W, Below w.heap.size w W -> ∀ k, k <= ra.length -> ra.length - k <= rc.length -> Calls Tryz.prog 23 #[.slice (dI6 A k c1 4) (ra.length - k) (c1 - k), .slice C (ra.length - k) c3] W fun e w' => e = .returned (.bool (aP6 ((ra.map aD8.e).drop k) ((rc.map aD8.e).take (ra.length - k)))) ∧ Below W.heap.size W w') := qZ (fun W hW k h1 h2 => by
  have h3 := bL1 (dI6 A k c1 4) C (ra.drop k) (rc.take (ra.length - k)) (c1 - k) c3 W ((cS9 ha h1 l7.1).keep hW.size (fun x hx => hW.block x (a9 x hx))) ((cE0 hc _).keep hW.size (fun x hx => hW.block x (i2 x hx))) (fun q hq => (da q (List.mem_of_mem_drop hq)).keep hW.size (fun x hx => hW.block x (a9 x hx))) (fun q hq => (dc q (List.mem_of_mem_take hq)).keep hW.size (fun x hx => hW.block x (i2 x hx))) (fun x hx => by have := a9 x hx; have := hW.size; omega) (fun x hx => by have := i2 x hx; have := hW.size; omega) (by rw [lZ]; omega) (by rw [lV]; omega) (fun q hq => m2 q (List.mem_of_mem_drop hq)) (fun q hq => n6 q (List.mem_of_mem_take hq));rw [lZ, lV, Nat.min_eq_left h2, List.map_drop, List.map_take] at h3;exact h3)
 have n8 := qZ k4;have i4 := qZ k5;have p0 : rb.length <= c2 ∧ rb.length <= 1099511627776 := ⟨l8.1, l8.2.2⟩;have o9 : ra.length <= c1 ∧ c1 <= 9223372036854775807 ∧ ra.length <= 1099511627776 := l7;have p4 : rc.length <= c3 ∧ rc.length <= 1099511627776 := ⟨l9.1, l9.2.2⟩;have o8 := qZ m7;clear ha hb hc da db dc a9 i1 i2 l7 l8 l9 m2 m9 n6 k4 k5 m7;go_enter Tryz.func24, Tryz.ntmps24
 go_wp2_with fail
 go_loopw [9, 10] (fun nv _ wr => ∃ k : Nat, n0 <= k ∧ k <= rb.length ∧ nv = .int .i64 k ∧ Hid (Below w.heap.size w wr)) (fun nv _ _ => (intOf nv).toNat)
 case atStart => exact ⟨rb.length, k2, lR _, rfl, qZ (lS _ _)⟩
 obtain ⟨k, p6, n9, rfl, HB⟩ := hrel;have p7 : keep <= (k : Int) := by omega
 have p5 : (0 : Int) <= (k : Int) := by omega
 have hs := HB.out.size;by_cases hgt : ra.length < k
 ·obtain ⟨m, hm⟩ : ∃ m, k = m + 1 := ⟨k - 1, by omega⟩
  have l5 : (ra.length : Int) < (k : Int) := by omega
  have m5 : decide ((ra.length : Int) < (k : Int)) = true := decide_eq_true l5;have m6 : decide (ra.length < k) = true := decide_eq_true hgt;have m8 : IntKind.i64.wrap ((k : Int) - 1) = (m : Int) := by rw [mH _ (by omega)]; omega
  have g8 : (k : Int) - 1 = (m : Int) := by omega
  have g9 : IntKind.i64.wrap (m : Int) = (m : Int) := mH _ (by omega);have HM := qZ hm;have f7 := qZ HB.out.drew;clear HB i6 b8 hm;go_upto_region 4 with fail
  refine wp_region_held_drew (S := fun W => True ∧ True ∧ True ∧ True) (by kernel_rfl) ⟨trivial, trivial, trivial, trivial⟩ (fun hHeld => ?_);refine aC4 0 (v := ?_) (by simp) (by kernel_rfl) (by kernel_rfl) (by kernel_rfl) (fun _ _ _ h => h) (Or.inl ⟨by rfl, ?_⟩) hHeld ?_
  case refine_2 => (intro w a7; (try dsimp only at a7); (try (obtain ⟨s0, s1, s2, s3⟩ := a7)); simp only [List.getElem_cons_zero]; go_simp <;> with_reducible rfl)
  simp only [List.getElem_cons_zero, Act.put, List.setIfInBounds_toArray, List.set_cons_zero, List.set_cons_succ];refine aC4 1 (v := ?_) (by simp) (by kernel_rfl) (by kernel_rfl) (by kernel_rfl) (fun _ _ _ h => h) (Or.inl ⟨by rfl, ?_⟩) hHeld ?_
  case refine_2 => (intro w a7; (try dsimp only at a7); (try (obtain ⟨s0, s1, s2, s3⟩ := a7)); simp only [List.getElem_cons_zero, List.getElem_cons_succ]; go_simp <;> with_reducible rfl)
  simp only [List.getElem_cons_zero, List.getElem_cons_succ, Act.put, List.setIfInBounds_toArray, List.set_cons_zero, List.set_cons_succ];refine aC4 2 (v := ?_) (by simp) (by kernel_rfl) (by kernel_rfl) (by kernel_rfl) (fun _ _ _ h => h) (Or.inl ⟨by rfl, ?_⟩) hHeld ?_
  case refine_2 => (intro w a7; (try dsimp only at a7); (try (obtain ⟨s0, s1, s2, s3⟩ := a7)); simp only [List.getElem_cons_zero, List.getElem_cons_succ]; go_simp <;> with_reducible rfl)
  simp only [List.getElem_cons_zero, List.getElem_cons_succ, Act.put, List.setIfInBounds_toArray, List.set_cons_zero, List.set_cons_succ];refine aC4 3 (v := ?_) (by simp) (by kernel_rfl) (by kernel_rfl) (by kernel_rfl) (fun _ _ _ h => h) (Or.inl ⟨by rfl, ?_⟩) hHeld ?_
  case refine_2 => (intro w a7; (try dsimp only at a7); (try (obtain ⟨s0, s1, s2, s3⟩ := a7)); simp only [List.getElem_cons_zero, List.getElem_cons_succ]; go_simp <;> with_reducible rfl)
  simp only [List.getElem_cons_zero, List.getElem_cons_succ, Act.put, List.setIfInBounds_toArray, List.set_cons_zero, List.set_cons_succ];refine aC4 4 (v := ?_) (by simp) (by kernel_rfl) (by kernel_rfl) (by kernel_rfl) (fun _ _ _ h => h) (Or.inl ⟨by rfl, ?_⟩) hHeld ?_
  case refine_2 => (intro w a7; (try dsimp only at a7); (try (obtain ⟨s0, s1, s2, s3⟩ := a7)); simp only [List.getElem_cons_zero, List.getElem_cons_succ]; go_simp <;> with_reducible rfl)
  simp only [List.getElem_cons_zero, List.getElem_cons_succ, Act.put, List.setIfInBounds_toArray, List.set_cons_zero, List.set_cons_succ];refine aC4 5 (v := undef) (by simp) (by kernel_rfl) (by kernel_rfl) (by kernel_rfl) (fun _ _ _ h => h) (Or.inr ⟨by rfl, rfl⟩) hHeld ?_;simp only [List.getElem_cons_zero, List.getElem_cons_succ, Act.put, List.setIfInBounds_toArray, List.set_cons_zero, List.set_cons_succ];refine aC4 6 (v := undef) (by simp) (by kernel_rfl) (by kernel_rfl) (by kernel_rfl) (fun _ _ _ h => h) (Or.inr ⟨by rfl, rfl⟩) hHeld ?_;simp only [List.getElem_cons_zero, List.getElem_cons_succ, Act.put, List.setIfInBounds_toArray, List.set_cons_zero, List.set_cons_succ];refine aC4 7 (v := undef) (by simp) (by kernel_rfl) (by kernel_rfl) (by kernel_rfl) (fun _ _ _ h => h) (Or.inr ⟨by rfl, rfl⟩) hHeld ?_;simp only [List.getElem_cons_zero, List.getElem_cons_succ, Act.put, List.setIfInBounds_toArray, List.set_cons_zero, List.set_cons_succ];refine aC4 8 (v := undef) (by simp) (by kernel_rfl) (by kernel_rfl) (by kernel_rfl) (fun _ _ _ h => h) (Or.inr ⟨by rfl, rfl⟩) hHeld ?_;simp only [List.getElem_cons_zero, List.getElem_cons_succ, Act.put, List.setIfInBounds_toArray, List.set_cons_zero, List.set_cons_succ];refine aC4 9 (v := undef) (by simp) (by kernel_rfl) (by kernel_rfl) (by kernel_rfl) (fun _ _ _ h => h) (Or.inr ⟨by rfl, rfl⟩) hHeld ?_;simp only [List.getElem_cons_zero, List.getElem_cons_succ, Act.put, List.setIfInBounds_toArray, List.set_cons_zero, List.set_cons_succ];refine aC4 10 (v := undef) (by simp) (by kernel_rfl) (by kernel_rfl) (by kernel_rfl) (fun _ _ _ h => h) (Or.inr ⟨by rfl, rfl⟩) hHeld ?_;simp only [List.getElem_cons_zero, List.getElem_cons_succ, Act.put, List.setIfInBounds_toArray, List.set_cons_zero, List.set_cons_succ]
  refine aC4 11 (v := undef) (by simp) (by kernel_rfl) (by kernel_rfl) (by kernel_rfl) (fun _ _ _ h => h) (Or.inr ⟨by rfl, rfl⟩) hHeld ?_;simp only [List.getElem_cons_zero, List.getElem_cons_succ, Act.put, List.setIfInBounds_toArray, List.set_cons_zero, List.set_cons_succ];refine aC4 12 (v := undef) (by simp) (by kernel_rfl) (by kernel_rfl) (by kernel_rfl) (fun _ _ _ h => h) (Or.inr ⟨by rfl, rfl⟩) hHeld ?_;simp only [List.getElem_cons_zero, List.getElem_cons_succ, Act.put, List.setIfInBounds_toArray, List.set_cons_zero, List.set_cons_succ];refine aC4 13 (v := ?_) (by simp) (by kernel_rfl) (by kernel_rfl) (by kernel_rfl) (fun _ _ _ h => h) (Or.inl ⟨by rfl, ?_⟩) hHeld ?_
  case refine_2 => (intro w a7; (try dsimp only at a7); (try (obtain ⟨s0, s1, s2, s3⟩ := a7)); simp only [List.getElem_cons_zero, List.getElem_cons_succ]; go_simp <;> with_reducible rfl)
  simp only [List.getElem_cons_zero, List.getElem_cons_succ, Act.put, List.setIfInBounds_toArray, List.set_cons_zero, List.set_cons_succ];refine wpAnyH_done (by kernel_rfl) ?_ _;go_wp2_with fail
  go_roundw
  case rel => exact ⟨m, by have := HM.out; omega, by have := HM.out; omega, by go_num, f7⟩
  case measure => have := HM.out; simp [intOf] <;> omega
 have m0 : k <= ra.length := by omega
 have l5 : ¬ (ra.length : Int) < (k : Int) := by omega
 have m5 : decide ((ra.length : Int) < (k : Int)) = false := decide_eq_false l5;have m6 : decide (ra.length < k) = false := decide_eq_false hgt;have f8 := fun W : World => aZ2 (P := Tryz.prog) Tryz.underlying40 aI8 A ra.length c1 k (by omega) (k : Int) rfl W
 have f9 := fun W : World => aZ2 (P := Tryz.prog) Tryz.underlying40 aI8 B rb.length c2 k (by omega) (k : Int) rfl W
 have l4 : Below w.heap.size w wr.drew := HB.out.drew;have j6 := qZ (i6.out _ l4 k m0 n9);have f7 := qZ l4;obtain ⟨b1, j8⟩ : ∃ b, b = aP6 ((ra.map aD8.e).take k) ((rb.map aD8.e).take k) := ⟨_, rfl⟩
 rw [<- j8] at j6;have e9 := qZ j8;clear j8 l4 i6;go_upto_region 4 with fail
 go_cut [35] from 22 to 35 (fun cv wx => cv = .bool (! b1) ∧ Hid (Below w.heap.size w wx))
 case first =>
  refine wp_region_held_drew (S := fun W => True ∧ True ∧ True ∧ True) (by kernel_rfl) ⟨trivial, trivial, trivial, trivial⟩ (fun hHeld => ?_);refine aC4 0 (v := ?_) (by simp) (by kernel_rfl) (by kernel_rfl) (by kernel_rfl) (fun _ _ _ h => h) (Or.inl ⟨by rfl, ?_⟩) hHeld ?_
  case refine_2 => (intro w a7; (try dsimp only at a7); (try (obtain ⟨s0, s1, s2, s3⟩ := a7)); simp only [List.getElem_cons_zero]; go_simp <;> with_reducible rfl)
  simp only [List.getElem_cons_zero, Act.put, List.setIfInBounds_toArray, List.set_cons_zero, List.set_cons_succ];refine aC4 1 (v := ?_) (by simp) (by kernel_rfl) (by kernel_rfl) (by kernel_rfl) (fun _ _ _ h => h) (Or.inl ⟨by rfl, ?_⟩) hHeld ?_
  case refine_2 => (intro w a7; (try dsimp only at a7); (try (obtain ⟨s0, s1, s2, s3⟩ := a7)); simp only [List.getElem_cons_zero, List.getElem_cons_succ]; go_simp <;> with_reducible rfl)
  simp only [List.getElem_cons_zero, List.getElem_cons_succ, Act.put, List.setIfInBounds_toArray, List.set_cons_zero, List.set_cons_succ];refine aC4 2 (v := ?_) (by simp) (by kernel_rfl) (by kernel_rfl) (by kernel_rfl) (fun _ _ _ h => h) (Or.inl ⟨by rfl, ?_⟩) hHeld ?_
  case refine_2 => (intro w a7; (try dsimp only at a7); (try (obtain ⟨s0, s1, s2, s3⟩ := a7)); simp only [List.getElem_cons_zero, List.getElem_cons_succ]; go_simp <;> with_reducible rfl)
  simp only [List.getElem_cons_zero, List.getElem_cons_succ, Act.put, List.setIfInBounds_toArray, List.set_cons_zero, List.set_cons_succ];refine aC4 3 (v := ?_) (by simp) (by kernel_rfl) (by kernel_rfl) (by kernel_rfl) (fun _ _ _ h => h) (Or.inl ⟨by rfl, ?_⟩) hHeld ?_
  case refine_2 => (intro w a7; (try dsimp only at a7); (try (obtain ⟨s0, s1, s2, s3⟩ := a7)); simp only [List.getElem_cons_zero, List.getElem_cons_succ]; go_simp <;> with_reducible rfl)
  simp only [List.getElem_cons_zero, List.getElem_cons_succ, Act.put, List.setIfInBounds_toArray, List.set_cons_zero, List.set_cons_succ];refine aC4 4 (v := ?_) (by simp) (by kernel_rfl) (by kernel_rfl) (by kernel_rfl) (fun _ _ _ h => h) (Or.inl ⟨by rfl, ?_⟩) hHeld ?_
  case refine_2 => (intro w a7; (try dsimp only at a7); (try (obtain ⟨s0, s1, s2, s3⟩ := a7)); simp only [List.getElem_cons_zero, List.getElem_cons_succ]; go_simp <;> with_reducible rfl)
  simp only [List.getElem_cons_zero, List.getElem_cons_succ, Act.put, List.setIfInBounds_toArray, List.set_cons_zero, List.set_cons_succ];refine aC4 5 (v := ?_) (by simp) (by kernel_rfl) (by kernel_rfl) (by kernel_rfl) (fun _ _ _ h => h) (Or.inl ⟨by rfl, ?_⟩) hHeld ?_
  case refine_2 => (intro w a7; (try dsimp only at a7); (try (obtain ⟨s0, s1, s2, s3⟩ := a7)); simp only [List.getElem_cons_zero, List.getElem_cons_succ]; go_simp <;> with_reducible rfl)
  simp only [List.getElem_cons_zero, List.getElem_cons_succ, Act.put, List.setIfInBounds_toArray, List.set_cons_zero, List.set_cons_succ];refine aC4 6 (v := ?_) (by simp) (by kernel_rfl) (by kernel_rfl) (by kernel_rfl) (fun _ _ _ h => h) (Or.inl ⟨by rfl, ?_⟩) hHeld ?_
  case refine_2 => (intro w a7; (try dsimp only at a7); (try (obtain ⟨s0, s1, s2, s3⟩ := a7)); simp only [List.getElem_cons_zero, List.getElem_cons_succ]; go_simp <;> with_reducible rfl)
  simp only [List.getElem_cons_zero, List.getElem_cons_succ, Act.put, List.setIfInBounds_toArray, List.set_cons_zero, List.set_cons_succ];refine aC4 7 (v := ?_) (by simp) (by kernel_rfl) (by kernel_rfl) (by kernel_rfl) (fun _ _ _ h => h) (Or.inl ⟨by rfl, ?_⟩) hHeld ?_
  case refine_2 => (intro w a7; (try dsimp only at a7); (try (obtain ⟨s0, s1, s2, s3⟩ := a7)); simp only [List.getElem_cons_zero, List.getElem_cons_succ]; go_simp <;> with_reducible rfl)
  simp only [List.getElem_cons_zero, List.getElem_cons_succ, Act.put, List.setIfInBounds_toArray, List.set_cons_zero, List.set_cons_succ];refine aC4 8 (v := ?_) (by simp) (by kernel_rfl) (by kernel_rfl) (by kernel_rfl) (fun _ _ _ h => h) (Or.inl ⟨by rfl, ?_⟩) hHeld ?_
  case refine_2 => (intro w a7; (try dsimp only at a7); (try (obtain ⟨s0, s1, s2, s3⟩ := a7)); simp only [List.getElem_cons_zero, List.getElem_cons_succ]; go_simp <;> with_reducible rfl)
  simp only [List.getElem_cons_zero, List.getElem_cons_succ, Act.put, List.setIfInBounds_toArray, List.set_cons_zero, List.set_cons_succ];refine aC4 9 (v := ?_) (by simp) (by kernel_rfl) (by kernel_rfl) (by kernel_rfl) (fun _ _ _ h => h) (Or.inl ⟨by rfl, ?_⟩) hHeld ?_
  case refine_2 => (intro w a7; (try dsimp only at a7); (try (obtain ⟨s0, s1, s2, s3⟩ := a7)); simp only [List.getElem_cons_zero, List.getElem_cons_succ]; go_simp <;> with_reducible rfl)
  simp only [List.getElem_cons_zero, List.getElem_cons_succ, Act.put, List.setIfInBounds_toArray, List.set_cons_zero, List.set_cons_succ];refine aC4 10 (v := ?_) (by simp) (by kernel_rfl) (by kernel_rfl) (by kernel_rfl) (fun _ _ _ h => h) (Or.inl ⟨by rfl, ?_⟩) hHeld ?_
  case refine_2 => (intro w a7; (try dsimp only at a7); (try (obtain ⟨s0, s1, s2, s3⟩ := a7)); simp only [List.getElem_cons_zero, List.getElem_cons_succ]; go_simp <;> with_reducible rfl)
  simp only [List.getElem_cons_zero, List.getElem_cons_succ, Act.put, List.setIfInBounds_toArray, List.set_cons_zero, List.set_cons_succ];refine bY3 11 (by simp) (by kernel_rfl) (fun K hK => ?_);simp only [List.getElem_cons_zero, List.getElem_cons_succ];go_simp;refine j6.out.mono ?_;rintro e w1 ⟨rfl, hb⟩;have a8 := qZ (f7.out.trans (hb.mono f7.out.size));clear hb;refine hK.out _ _ ⟨trivial, trivial, trivial, trivial⟩ (fun hHeld => ?_);clear hK K;try simp only [Act.put, List.setIfInBounds_toArray, List.set_cons_zero, List.set_cons_succ]
  refine aC4 12 (v := ?_) (by simp) (by kernel_rfl) (by kernel_rfl) (by kernel_rfl) (fun _ _ _ h => h) (Or.inl ⟨by rfl, ?_⟩) hHeld ?_
  case refine_2 => (intro w a7; (try dsimp only at a7); (try (obtain ⟨s0, s1, s2, s3⟩ := a7)); simp only [List.getElem_cons_zero, List.getElem_cons_succ]; go_simp <;> with_reducible rfl)
  simp only [List.getElem_cons_zero, List.getElem_cons_succ, Act.put, List.setIfInBounds_toArray, List.set_cons_zero, List.set_cons_succ];refine aC4 13 (v := ?_) (by simp) (by kernel_rfl) (by kernel_rfl) (by kernel_rfl) (fun _ _ _ h => h) (Or.inl ⟨by rfl, ?_⟩) hHeld ?_
  case refine_2 => (intro w a7; (try dsimp only at a7); (try (obtain ⟨s0, s1, s2, s3⟩ := a7)); simp only [List.getElem_cons_zero, List.getElem_cons_succ]; go_simp <;> with_reducible rfl)
  simp only [List.getElem_cons_zero, List.getElem_cons_succ, Act.put, List.setIfInBounds_toArray, List.set_cons_zero, List.set_cons_succ];refine wpAnyH_done (by kernel_rfl) ?_ _;go_wp2_with fail
  go_meet;exact ⟨rfl, a8⟩
 obtain ⟨rfl, a8⟩ := hcut;have o7 := a8.out.size;clear j6 f7 HB f8 f9 hs m5 m6;cases b1 with
 | false =>
  have g7 : k ≠ n0 := fun e => by
   have h1 := e9.out;rw [e, n8.out, (bB2 _ _).2 rfl] at h1;cases h1
  obtain ⟨m, rfl⟩ : ∃ m, k = m + 1 := ⟨k - 1, by omega⟩
  have m8 : IntKind.i64.wrap (((m + 1 : Nat) : Int) - 1) = (m : Int) := by rw [mH _ (by omega)]; omega
  have g8 : ((m + 1 : Nat) : Int) - 1 = (m : Int) := by omega
  have g9 : IntKind.i64.wrap (m : Int) = (m : Int) := mH _ (by omega);clear e9 b8;go_wp2_with fail
  go_roundw
  case rel => exact ⟨m, by omega, by omega, by go_num, a8⟩
  case measure => simp [intOf] <;> omega
 | true =>
  have g6 := fun W : World => aT2 (P := Tryz.prog) Tryz.underlying40 aI8 A ra.length c1 k m0 (k : Int) rfl W
  obtain ⟨z, hz⟩ : ∃ z, z = ra.length - k := ⟨_, rfl⟩
  rw [<- hz] at g6;by_cases hz0 : z = 0
  ·subst hz0
   clear b8 e9 hz;go_wp2_with fail
   go_ret
   exact ⟨rfl, a8.out⟩
  have p8 : ((z : Int) == 0) = false := beq_eq_false_iff_ne.2 (by omega);by_cases hke : keep = (k : Int)
  rotate_left
  ·have l6 : ((k : Int) == keep) = false := beq_eq_false_iff_ne.2 (fun e => hke e.symm)
   have g7 : k ≠ n0 := fun e => by
    rcases i4.out with h1 | ⟨h1, _, _⟩
    ·omega
    exact hke (by rw [e, h1])
   obtain ⟨m, hm⟩ : ∃ m, k = m + 1 := ⟨k - 1, by omega⟩
   have m8 : IntKind.i64.wrap ((k : Int) - 1) = (m : Int) := by rw [mH _ (by omega)]; omega
   have g8 : (k : Int) - 1 = (m : Int) := by omega
   have g9 : IntKind.i64.wrap (m : Int) = (m : Int) := mH _ (by omega);have HM := qZ hm;clear e9 b8 hm hz hke;go_wp2_with fail
   go_roundw
   case rel => exact ⟨m, by have := HM.out; omega, by have := HM.out; omega, by go_num, a8⟩
   case measure => have := HM.out; simp [intOf] <;> omega
  have l6 : ((k : Int) == keep) = true := by rw [hke]; simp
  by_cases hzl : z <= rc.length
  rotate_left
  ·have m3 : ¬ (z : Int) <= (rc.length : Int) := by omega
   have g7 : k ≠ n0 := fun e => by
    rcases i4.out with h1 | ⟨_, h1, _⟩
    ·omega
    have h2 : ra.length - n0 <= rc.length := by simpa using h1
    omega
   exact absurd (show k = n0 by omega) g7
  have m3 : (z : Int) <= (rc.length : Int) := by omega
  have m4 := fun W : World => aZ2 (P := Tryz.prog) Tryz.underlying40 aI8 C rc.length c3 z (by omega) (z : Int) rfl W
  have d8 := b8.out _ a8.out k m0 (by omega);rw [<- hz] at d8;obtain ⟨b2, j9⟩ : ∃ b, b = aP6 ((ra.map aD8.e).drop k) ((rc.map aD8.e).take z) := ⟨_, rfl⟩
  rw [<- j9] at d8;replace d8 := qZ d8;have i3 := qZ j9;have HZ := qZ hz;clear j9 b8 e9 hz;subst hke;cases b2 with
  | true =>
   go_wp2_with fail
   refine d8.out.mono ?_;rintro e w3 ⟨rfl, hb⟩;have n7 := qZ (a8.out.trans (hb.mono o7));clear hb d8;go_wp2_with fail
   go_ret
   exact ⟨rfl, n7.out⟩
  | false =>
   have g7 : k ≠ n0 := fun e => by
    rcases i4.out with h1 | ⟨_, _, h1⟩
    ·have := HZ.out; omega
    have h2 := i3.out;rw [e, h1, <- show z = ra.length - n0 by rw [HZ.out, e], (bB2 _ _).2 rfl] at h2;cases h2
   exact absurd (show k = n0 by omega) g7
end
section
open Oct
def cH4 (t v : Int) (mo : Option FD) : Prop := (mo = none ∧ t = 0 ∧ v = 0) ∨ mo = some (fdS (aP4 t v))
structure Good (j : JnP) (fs : List (Nm × FD)) : Prop where
 bad : j.bad = 0
 ch : aE9 j.segs
 fx : ∃ mo, FX fs (j.segs.map aH4) mo none ∧ cH4 j.term j.vote mo
 num : (0 <= j.term ∧ j.term <= 9223372036854775807) ∧ (0 <= j.vote ∧ j.vote <= 9223372036854775807)
theorem cH4.of {t v : Int} {mo : Option FD} (h : cH4 t v mo) (ht : 0 <= t ∧ t <= 9223372036854775807) (hv : 0 <= v ∧ v <= 9223372036854775807) : bA7 mo = some (t, v) ∧ ∀ f, mo = some f -> f.safe = f.b.length := by
 rcases h with ⟨rfl, rfl, rfl⟩ | rfl
 ·exact ⟨rfl, fun f hf => by cases hf⟩
 exact ⟨bF3 ht hv _, fun f hf => by injection hf with hf; rw [<- hf]; rfl⟩
section
variable {pw : PWD} {room : Int} {fs : List (Nm × FD)} {mo nw : Option FD} {A : List aB1} {t v : Int}
theorem bW4 : aI6 ⟨false, false, 0, 0⟩ := ⟨rfl, rfl⟩
theorem aW2 (h : FX fs (A.map aH4) mo nw) (hA : aE9 A) (hm : bA7 mo = some (t, v) ∧ ∀ f, mo = some f -> f.safe = f.b.length) (hn : ∀ f, nw = some f -> f.safe <= f.b.length) (keep : List Int) : ∃ d', aL5 (DkD.boot ⟨pw, room, fs⟩ keep) = (0, some ⟨t, v, A, 0⟩, d') := by
 obtain ⟨β, a7, h1, h2⟩ := h.boot keep ⟨fun r hr => by obtain ⟨s, hs, rfl⟩ := List.mem_map.1 hr; exact lR _, hm.2, hn⟩;have h3 : (A.map aH4).map (fun r => (r.1, β r)) = A.map aH4 := by
  refine (List.map_congr_left fun r hr => ?_).trans (List.map_id _);obtain ⟨s, hs, rfl⟩ := List.mem_map.1 hr;rw [(h2 _ hr).safe rfl]
  rfl
 rw [h3] at h1;exact cO7 (room := room) bW4 h1 hA hm.1
theorem cL9 {x : aB1} (hx : aT6 x) (k : Int) (W : Nat) : (bS5 x k W).ends.isEmpty = decide (W = 0) := by
 cases W with
 | zero => rfl
 | succ m =>
  show (x.ends.take (m + 1)).isEmpty = _
  cases he : x.ends with
  | nil => exact absurd he hx.ne
  | cons a r => rfl
theorem dN0 (x : aB1) (k : Int) (W : Nat) : (bS5 x k W).k = k := by cases W <;> rfl
theorem aY0 {x : aB1} {lo n : Nat} (h : FX fs (A.map aH4 ++ [(x.k, ⟨(aC8 x).take n, lo⟩)]) mo nw) (hA : aE9 A) (hx : aT6 x) (e9 : lo <= n ∧ n <= (aC8 x).length) (a7 : ∀ y, A.getLast? = some y -> x.k = y.k + 1) (hm : bA7 mo = some (t, v) ∧ ∀ f, mo = some f -> f.safe = f.b.length) (hn : ∀ f, nw = some f -> f.safe <= f.b.length) (keep : List Int) :
  ∃ m W d', (lo <= m ∧ m <= n) ∧ W <= (aM1 x).length ∧ (cat ((aM1 x).take W)).length <= m ∧ (W = (aM1 x).length ∨ m < (cat ((aM1 x).take (W + 1))).length) ∧ aL5 (DkD.boot ⟨pw, room, fs⟩ keep) = (0, some ⟨t, v, aE0 [] (if W = 0 then A else A ++ [bS5 x x.k W]), 0⟩, d') := by
 have f7 : ((aC8 x).take n).length = n := by rw [lV]; omega
 obtain ⟨β, f8, h1, h2⟩ := h.boot keep ⟨fun r hr => by
  rcases List.mem_append.1 hr with h1 | h1
  ·obtain ⟨s, hs, rfl⟩ := List.mem_map.1 h1; exact lR _
  rw [List.mem_singleton.1 h1];show lo <= ((aC8 x).take n).length
  omega, hm.2, hn⟩
 obtain ⟨m, a9, b8, hb⟩ := h2 (x.k, ⟨(aC8 x).take n, lo⟩) (by simp);have a8 : m <= n := by
  have h3 : m <= ((aC8 x).take n).length := b8;omega
 have h3 : (A.map aH4 ++ [(x.k, (⟨(aC8 x).take n, lo⟩ : FD))]).map (fun r => (r.1, β r)) = A.map aH4 ++ [(x.k, ⟨(aC8 x).take m, m⟩)] := by
  rw [mE, List.map_singleton]
  congr 1
  ·refine (List.map_congr_left fun r hr => ?_).trans (List.map_id _)
   have d8 := hr;obtain ⟨s, hs, rfl⟩ := List.mem_map.1 hr;rw [(h2 _ (List.mem_append_left _ d8)).safe rfl]
   rfl
  rw [hb];show [(x.k, (⟨((aC8 x).take n).take m, m⟩ : FD))] = _
  rw [List.take_take, Nat.min_eq_left a8]
 rw [h3] at h1;obtain ⟨W, tn, w1, w2, w3, w4, w5⟩ := bZ8 hx x.k (n := m) (by omega);have hl := cR8 hx x.k w1;obtain ⟨d', hd⟩ := bZ5 (room := room) (t := t) (v := v) bW4 (f := ⟨(aC8 x).take m, m⟩) h1 hA w4 (dN0 x x.k W) (by
  rw [hl];show 0 <= _ ∧ _ <= (((aC8 x).take m).length : Int)
  rw [lV];omega) a7 hm.1
 refine ⟨m, W, d', ⟨a9, a8⟩, w1, w2, w3, ?_⟩;rw [cL9 hx] at hd;show aL5 ⟨⟨false, false, 0, 0⟩, room, aJ5 keep fs.length fs⟩ = _
 rw [hd];simp only [decide_eq_true_eq]
def aR0 (pw : PWD) (room : Int) (r : Int × JnP × DkD) (P : JnP -> Prop) : Prop :=
 (r.1 ≠ 50 ∧ ∃ pw' fs', r.2.2 = ⟨pw', room, fs'⟩ ∧ pw'.off = false ∧ (aI6 pw -> aI6 pw') ∧ Good r.2.1 fs') ∨
 (¬ aI6 pw ∧ r.1 = 50 ∧ ∃ pw' fs', r.2.2 = ⟨pw', room, fs'⟩ ∧ ∀ keep, ∃ k d', aL5 (DkD.boot ⟨pw', room, fs'⟩ keep) = (0, some k, d') ∧ P k)
theorem aR0.same {j : JnP} {P : JnP -> Prop} (h : Good j fs) (hp : pw.off = false) {c : Int} (hc : c ≠ 50) : aR0 pw room (c, j, ⟨pw, room, fs⟩) P := .inl ⟨hc, pw, fs, rfl, hp, id, h⟩
theorem Good.boot {j : JnP} (h : Good j fs) (keep : List Int) : ∃ d', aL5 (DkD.boot ⟨pw, room, fs⟩ keep) = (0, some j, d') := by
 obtain ⟨mo, h1, h2⟩ := h.fx;obtain ⟨d', hd⟩ := aW2 (pw := pw) (room := room) h1 h.ch (h2.of h.num.1 h.num.2) (fun f hf => by cases hf) keep;refine ⟨d', ?_⟩;rw [hd];obtain ⟨a, b, c, e⟩ := j;have he : e = 0 := h.bad;rw [he]
theorem dE2 {n : Nm} (hp : pw.off = false) : DkD.read ⟨pw, room, fs⟩ n = match aA9 n fs with | none => ([], 51) | some f => (f.b, 0) := by
 unfold DkD.read;rw [if_neg (by rw [hp]; simp)];cases aA9 n fs <;> rfl
theorem bB3 {j : JnP} (h : Good j fs) (hp : pw.off = false) {t v : Int} (ht : -9223372036854775808 <= t ∧ t <= 9223372036854775807) (hv : -9223372036854775808 <= v ∧ v <= 9223372036854775807) :
  aR0 pw room (aE2 j ⟨pw, room, fs⟩ t v) (fun k => k.segs = j.segs ∧ ((k.term = j.term ∧ k.vote = j.vote) ∨ (k.term = t ∧ k.vote = v))) := by
 obtain ⟨mo, hF, hM⟩ := h.fx;have hr : DkD.read ⟨pw, room, fs⟩ aA3 = ([], 51) := by rw [dE2 hp, hF.new]
 unfold aE2;rw [if_neg (by rw [h.bad]; simp)];split
 ·exact aR0.same h hp (by decide)
 rename_i htv
 simp only [hr];split
 ·exact aR0.same h hp (by decide)
 rename_i hroom
 have b8 : ((aP4 t v).length : Int) <= room - aB7 fs := by
  unfold DkD.free at hroom;simp only [List.length_nil] at hroom;omega
 rw [if_neg (by decide)];obtain ⟨p, a8⟩ : ∃ p, p = aP4 t v := ⟨_, rfl⟩
 rw [<- a8] at b8 ⊢;have e9 := hM.of h.num.1 h.num.2;have a9 : (aA9 aA3 fs).getD ⟨[], 0⟩ = ⟨[], 0⟩ := by rw [hF.new]; rfl
 let S : List (Nm × FD) -> Prop := fun x => (∃ nw, FX x (j.segs.map aH4) mo nw ∧ ∀ f, nw = some f -> f.safe <= f.b.length) ∨ FX x (j.segs.map aH4) (some (fdS p)) none
 have o1 := cF2 (room := room) (fs := fs) (S := S) (n := aA3) (by decide) p b8 (fun m hm => .inl ⟨_, hF.putNew, fun f hf => by
  injection hf with hf
  rw [<- hf, a9];exact Nat.zero_le _⟩)
 rw [a9, List.nil_append] at o1;have f1 : FX (aB3 aA3 ⟨p, 0⟩ fs) (j.segs.map aH4) mo (some ⟨p, 0⟩) := hF.putNew;have o2 := bU2 (room := room) (S := S) f1.new (.inl ⟨_, f1, fun f hf => by injection hf with hf; rw [<- hf]; exact Nat.zero_le _⟩);have f2 : FX (aB3 aA3 ⟨p, p.length⟩ (aB3 aA3 ⟨p, 0⟩ fs)) (j.segs.map aH4) mo (some ⟨p, p.length⟩) := f1.putNew;have f3 : FX (aB3 aO9 ⟨p, p.length⟩ (aB6 aA3 (aB3 aA3 ⟨p, p.length⟩ (aB3 aA3 ⟨p, 0⟩ fs)))) (j.segs.map aH4) (some (fdS p)) none := f2.delNew.putMeta;have o3 := dK3 (room := room) (S := S) f2.new (.inl ⟨_, f2, fun f hf => by injection hf with hf; rw [<- hf]; exact lR _⟩) (.inr f3);have o := (o1.append o2).append o3;rcases o pw hp with ⟨a7, h1, h2, h3⟩ | ⟨a7, d8, h1, h2, h3⟩
 ·left
  have h4 : aG1 ([] ++ [aC3.app aA3 p, .sync aA3, .ren]) ⟨pw, room, fs⟩ = _ := h3;rw [h4];refine ⟨by show (0 : Int) ≠ 50; decide, a7, _, rfl, h1, h2, ?_⟩;show Good ⟨t, v, j.segs, 0⟩ _
  exact ⟨rfl, h.ch, ⟨_, f3, .inr (by rw [a8])⟩, ⟨by show 0 <= t; omega, ht.2⟩, ⟨by show 0 <= v; omega, hv.2⟩⟩
 right
 have h4 : aG1 ([] ++ [aC3.app aA3 p, .sync aA3, .ren]) ⟨pw, room, fs⟩ = _ := h2;rw [h4];refine ⟨h1, rfl, a7, d8, rfl, fun keep => ?_⟩;rcases h3 with ⟨nw, h5, h6⟩ | h5
 ·obtain ⟨d', hd⟩ := aW2 (pw := a7) (room := room) h5 h.ch e9 h6 keep
  exact ⟨_, d', hd, rfl, .inl ⟨rfl, rfl⟩⟩
 obtain ⟨d', hd⟩ := aW2 (t := t) (v := v) (pw := a7) (room := room) h5 h.ch ⟨by rw [a8]; exact bF3 ⟨by omega, ht.2⟩ ⟨by omega, hv.2⟩ _, fun f hf => by injection hf with hf; rw [<- hf]; rfl⟩ (fun f hf => by cases hf) keep;exact ⟨_, d', hd, rfl, .inr ⟨rfl, rfl⟩⟩
end
end
section
open Oct
theorem bX9 {segs : List aB1} {ix : Int} : ∀ (fuel f : Nat), segs.length <= f + 1 -> aV5 segs ix fuel f = f
 | 0, f, _ => rfl
 | fuel + 1, f, h => by
  unfold aV5;rw [List.getElem?_eq_none (by omega)]
theorem cJ2 {segs : List aB1} {ix : Int} : ∀ (fuel f : Nat), f < segs.length -> aV5 segs ix fuel f < segs.length
 | 0, f, h => h
 | fuel + 1, f, h => by
  unfold aV5;split
  ·rename_i s hs
   split
   ·exact cJ2 fuel (f + 1) (List.getElem?_eq_some_iff.1 hs).1
   exact h
  exact h
section
variable {pw : PWD} {room : Int} {fs : List (Nm × FD)} {mo nw : Option FD} {A : List aB1} {t v : Int} {S : List (Nm × FD) -> Prop}
theorem cF3 {B : List (Int × FD)} : ∀ {G : List (Int × FD)} {fs : List (Nm × FD)}, FX fs (G ++ B) mo nw -> (∀ m, m <= G.length -> ∀ x, FX x (G.drop m ++ B) mo nw -> S x) -> ∃ fs1, Out room (G.map fun r => aC3.rm (aA1 r.1)) fs S fs1 ∧ FX fs1 B mo nw
 | [], fs, h, _ => ⟨fs, Out.nil, h⟩
 | r :: G, fs, h, hS => by
  have h2 : FX (aB6 (aA1 r.1) fs) (G ++ B) mo nw := FX.rm (A := []) h;have o1 := dH5 (room := room) (S := S) (h.has r (by simp)) (hS 0 (by simp) _ h) (hS 1 (by simp) _ h2);obtain ⟨fs1, o2, h3⟩ := cF3 h2 (fun m hm x hx => hS (m + 1) (by simp; omega) x hx);exact ⟨fs1, by rw [mG]; exact o1.append o2, h3⟩
theorem aP1 (s t : aB1) : s.goesOn t = true ↔ s.first - 1 = t.last.1 ∧ s.term = t.last.2 := by
 unfold aB1.goesOn;simp
def cE2 (ix : Int) (s : aB1) : Option Int := if 0 <= ix - s.first ∧ ix - s.first < (s.l.length : Int) then (s.l[(ix - s.first).toNat]?).map aF9.tm else none
theorem cV7 {A : List aB1} : ∀ {s : aB1}, aE9 (A ++ [s]) -> ∀ a ∈ A, a.last.1 <= s.last.1 := by
 induction hn : A.length generalizing A with
 | zero =>
  intro s _ a ha;rw [mD hn] at ha;cases ha
 | succ n ih =>
  intro s h a ha;rcases mJ A with h0 | ⟨B, t, h0⟩
  ·rw [h0] at ha; cases ha
  rw [mA] at h0;subst h0;have h1 := (aP1 _ _).1 (h.last t (by simp)).2;have h2 := (h.seg s (by simp)).1.lastIx;have h3 : t.last.1 <= s.last.1 := by omega
  rcases List.mem_append.1 ha with h4 | h4
  ·have := ih (by simpa using hn) h.left a h4
   omega
  rw [List.mem_singleton.1 h4]; exact h3
theorem cM5 {ix : Int} {s : aB1} (h : aT6 s) (hi : s.last.1 < ix ∨ ix < s.first) : cE2 ix s = none := by
 unfold cE2;have h1 := h.lastIx;rw [if_neg (by omega)]
theorem cJ9 {s : aB1} (h : aT6 s) (hl : 0 < s.l.length) : cE2 s.last.1 s = some s.last.2 := by
 have h1 := h.lastIx;unfold cE2;rw [if_pos (by omega)];have h2 : (s.last.1 - s.first).toNat = s.l.length - 1 := by omega
 rw [h2];rcases mJ s.l with h0 | ⟨r, e, h0⟩
 ·rw [h0] at hl; cases hl
 rw [mA] at h0;unfold aB1.last;rw [h0];simp
theorem findLast : ∀ {A : List aB1} {s : aB1} {b : aB1}, aE9 (A ++ [s]) -> (A ++ [s]).head? = some b -> (s.last = (b.first - 1, b.term)) ∨ (b.first - 1 < s.last.1 ∧ (A ++ [s]).findSome? (cE2 s.last.1) = some s.last.2) := by
 intro A;induction hn : A.length generalizing A with
 | zero =>
  intro s b h hb;obtain rfl := mD hn;simp only [List.nil_append, List.head?_cons, Option.some.injEq] at hb;subst hb;have hs := (h.seg s (by simp)).1;by_cases hl : 0 < s.l.length
  ·refine .inr ⟨by have := hs.lastIx; omega, ?_⟩
   rw [List.nil_append, List.findSome?_cons, cJ9 hs hl]
  left
  obtain ⟨k, f, t, l, ends⟩ := s;obtain rfl : l = [] := mD (by simpa using hl)
  rfl
 | succ n ih =>
  intro s b h hb;rcases mJ A with h0 | ⟨B, t, h0⟩
  ·rw [h0] at hn; cases hn
  rw [mA] at h0;subst h0;have hs := (h.seg s (by simp)).1;have a8 : (B ++ [t]).head? = some b := by
   rw [List.head?_append] at hb;cases hx : (B ++ [t]).head? with
   | none =>
    rw [List.head?_eq_none_iff] at hx;simp at hx
   | some y => rw [hx] at hb; simpa using hb
  have hi := ih (by simpa using hn) h.left a8;have hg := (aP1 _ _).1 (h.last t (by simp)).2;have a7 : b.first - 1 <= t.last.1 := by
   rcases hi with h1 | h1
   ·rw [h1]; exact Int.le_refl _
   omega
  by_cases hl : 0 < s.l.length
  ·right
   have h1 := hs.lastIx;refine ⟨by omega, ?_⟩;rw [List.findSome?_append];have h2 : (B ++ [t]).findSome? (cE2 s.last.1) = none := by
    rw [List.findSome?_eq_none_iff];intro a ha;refine cM5 (h.seg a (by simp only [List.mem_append] at ha ⊢; exact .inl ha)).1 (.inl ?_);have h3 : a.last.1 <= t.last.1 := by
     rcases List.mem_append.1 ha with h4 | h4
     ·exact cV7 h.left a h4
     rw [List.mem_singleton.1 h4]; exact Int.le_refl _
    omega
   rw [h2, List.findSome?_cons, cJ9 hs hl]
   rfl
  have a9 : s.last = t.last := by
   obtain ⟨k, f, tm, l, ends⟩ := s;obtain rfl : l = [] := mD (by simpa using hl);exact Prod.ext hg.1 hg.2
  rw [a9];rcases hi with h1 | ⟨h1, h2⟩
  ·exact .inl h1
  refine .inr ⟨h1, ?_⟩;rw [List.findSome?_append, h2]
  rfl
theorem cZ3 (j : JnP) (ix : Int) : aW4 j ix = if j.base.1 = ix then some j.base.2 else j.segs.findSome? (cE2 ix) := rfl
theorem cX0 {j : JnP} (h : aE9 j.segs) {ix t : Int} (hn : cW9 j ix t = true) : ∀ y, j.segs.getLast? = some y -> (bR0 j ix t).goesOn y = false := by
 intro y hy;rw [Bool.eq_false_iff];intro hg;obtain ⟨h1, h2⟩ := (aP1 _ _).1 hg;have a9 : ix = y.last.1 := by
  have : (bR0 j ix t).first = ix + 1 := rfl;omega
 have b8 : t = y.last.2 := h2;rcases mJ j.segs with h0 | ⟨B, s, h0⟩
 ·rw [h0] at hy; cases hy
 rw [mA] at h0;rw [h0] at hy;have d8 : s = y := by simpa using hy
 subst d8;have a8 : j.last = s.last := by unfold JnP.last; rw [h0]; simp
 obtain ⟨b, hb⟩ : ∃ b, (B ++ [s]).head? = some b := by
  cases hx : (B ++ [s]).head? with
  | none => rw [List.head?_eq_none_iff] at hx; simp at hx
  | some b => exact ⟨b, rfl⟩
 have a7 : j.base = (b.first - 1, b.term) := by
  unfold JnP.base;rw [h0];cases hB : B ++ [s] with
  | nil => simp at hB
  | cons x r => rw [hB] at hb; simp at hb; rw [hb]
 have e9 : aW4 j s.last.1 = some s.last.2 := by
  rw [cZ3, a7];rcases findLast (by rw [<- h0]; exact h) hb with h3 | ⟨h3, h4⟩
  ·rw [h3]; simp
  rw [if_neg (by show ¬ b.first - 1 = _; omega), h0]; exact h4
 unfold cW9 at hn;rw [a8, a9, e9] at hn;rw [<- b8] at hn;simp at hn
theorem Good.base_nonneg {j : JnP} (h : aE9 j.segs) : 0 <= j.base.1 := by
 unfold JnP.base;split
 ·exact Int.le_refl _
 rename_i s r hs
 have := (h.seg s (by rw [hs]; simp)).1.first;show 0 <= s.first - 1
 omega
theorem cX1 {j : JnP} {ix t : Int} (h : aE9 j.segs) (hb : ¬ cZ9 j ix t) (ht : t <= 9223372036854775807) : aT6 (bR0 j ix t) ∧ 1 <= (bR0 j ix t).k ∧ (∀ y, j.segs.getLast? = some y -> (bR0 j ix t).k = y.k + 1) ∧ aC8 (bR0 j ix t) = aE4 (ix + 1) t := by
 have h0 := Good.base_nonneg h;unfold cZ9 aD6 at hb;have hf : 1 <= ix + 1 ∧ ix + 1 < aD6 := by unfold aD6; omega
 have h2 : aE4 (ix + 1) t = aE1 (hdP (ix + 1) t) := cJ6 (by unfold aD6 at hf; omega) ⟨by omega, ht⟩;refine ⟨⟨hf, ⟨by show 0 <= t; omega, ht⟩, fun e he => (by cases he), fun i hi => (by cases hi), (by show ix + 1 + 0 <= _; omega), ?_⟩, ?_, fun y hy => ?_, ?_⟩
 ·show [((aE4 (ix + 1) t).length : Int)] = aI2 0 [hdP (ix + 1) t]
  rw [aI2, aI2, h2, Int.zero_add]
 ·unfold bR0
  simp only;split
  ·rename_i x hx
   have := (h.seg x (List.mem_of_getLast? hx)).2;omega
  omega
 ·unfold bR0
  simp only [hy]
 show cat [hdP (ix + 1) t] = _
 rw [aN1, bC0, List.append_nil, h2]
theorem aZ8 {j : JnP} (h : Good j fs) (hp : pw.off = false) {ix t : Int} (ht : t <= 9223372036854775807) :
  aR0 pw room (aF8 j ⟨pw, room, fs⟩ ix t) (fun k => (k.term = j.term ∧ k.vote = j.vote) ∧ ((∃ r, (r < j.segs.length ∨ r = 0) ∧ k.segs = j.segs.drop r) ∨ (k.ents = [] ∧ k.base = (ix, t)))) := by
 obtain ⟨mo, hF, hM⟩ := h.fx;have f8 := hM.of h.num.1 h.num.2;rw [aK6, if_neg (by rw [h.bad]; simp)];split
 ·exact aR0.same h hp (by decide)
 rename_i hbad
 obtain ⟨n1, n2, n3, n4⟩ := cX1 h.ch hbad ht;have n5 := cX0 (t := t) (ix := ix) h.ch;obtain ⟨s, hs⟩ : ∃ s, s = bR0 j ix t := ⟨_, rfl⟩
 obtain ⟨nw, g7⟩ : ∃ b, b = cW9 j ix t := ⟨_, rfl⟩
 have d8 : s.first = ix + 1 ∧ s.term = t ∧ s.l = [] := by rw [hs]; exact ⟨rfl, rfl, rfl⟩
 rw [<- hs] at n1 n2 n3 n4 n5;rw [<- hs, <- g7];rw [<- g7] at n5;unfold aQ3;cases nw with
 | false =>
  rw [if_neg (by simp), if_neg (by simp)];simp only [Bool.false_eq_true, if_false, List.nil_append];obtain ⟨f, hf⟩ : ∃ f, f = aV5 j.segs ix j.segs.length 0 := ⟨_, rfl⟩
  rw [<- hf];have j6 : f < j.segs.length ∨ f = 0 := by
   by_cases h0 : 0 < j.segs.length
   ·exact .inl (by rw [hf]; exact cJ2 _ _ h0)
   refine .inr ?_;rw [hf];exact bX9 _ _ (by omega)
  obtain ⟨f7, o, h2⟩ := cF3 (room := room) (S := fun x => ∃ r, (r < j.segs.length ∨ r = 0) ∧ FX x ((j.segs.drop r).map aH4) mo none) (G := (j.segs.take f).map aH4) (B := (j.segs.drop f).map aH4) (mo := mo) (nw := none) (by rw [<- mE, List.take_append_drop]; exact hF) (fun m hm x hx => by
   rw [lU, lV] at hm;refine ⟨m, by omega, ?_⟩;rw [<- List.map_drop, <- mE] at hx;have h3 : (j.segs.take f).drop m ++ j.segs.drop f = j.segs.drop m := by
    rw [<- List.drop_append_of_le_length (by rw [lV]; omega), List.take_append_drop]
   rw [h3] at hx;exact hx)
  rw [List.map_map] at o;rcases o pw hp with ⟨a7, h3, h4, h5⟩ | ⟨a7, e9, h3, h4, r, h5, h6⟩
  ·left
   have h6 : aG1 ((j.segs.take f).map fun x => aC3.rm (aA1 x.k)) ⟨pw, room, fs⟩ = _ := h5;rw [h6];refine ⟨by show (0 : Int) ≠ 50; decide, a7, f7, rfl, h3, h4, ?_⟩;show Good ⟨j.term, j.vote, j.segs.drop f, j.bad⟩ _
   exact ⟨h.bad, h.ch.drop f, ⟨mo, h2, hM⟩, h.num⟩
  right
  have h7 : aG1 ((j.segs.take f).map fun x => aC3.rm (aA1 x.k)) ⟨pw, room, fs⟩ = _ := h4;rw [h7];refine ⟨h3, rfl, a7, e9, rfl, fun keep => ?_⟩;obtain ⟨d', hd⟩ := aW2 (pw := a7) (room := room) h6 (h.ch.drop r) f8 (fun f hf => by cases hf) keep;exact ⟨_, d', hd, ⟨rfl, rfl⟩, .inl ⟨r, h5, rfl⟩⟩
 | true =>
  split
  ·exact aR0.same h hp (by decide)
  rename_i hk9
  split
  ·exact aR0.same h hp (by decide)
  rename_i hroom
  have hk : 1 <= s.k ∧ s.k <= 999999999 := ⟨n2, by
   have : ¬ 999999999 < s.k := fun hh => hk9 ⟨rfl, hh⟩
   omega⟩
  have g8 : ((aE4 (ix + 1) t).length : Int) <= room - aB7 fs := by
   have : ¬ DkD.free ⟨pw, room, fs⟩ < ((aE4 (ix + 1) t).length : Int) := fun hh => hroom ⟨rfl, hh⟩
   unfold DkD.free at this;simp only at this;omega
  simp only [if_true];have i3 : aV5 (j.segs ++ [s]) ix (j.segs ++ [s]).length j.segs.length = j.segs.length := bX9 _ _ (by simp);rw [i3];have i6 : (j.segs ++ [s]).take j.segs.length = j.segs := by rw [List.take_append_of_le_length (lR _), List.take_length]
  have i2 : (j.segs ++ [s]).drop j.segs.length = [s] := by rw [List.drop_append_of_le_length (lR _), List.drop_length, List.nil_append]
  rw [i6, i2, <- n4];rw [<- n4] at g8;have b8 : ∀ r ∈ j.segs.map aH4, r.1 < s.k := fun r hr => by
   obtain ⟨x, hx, rfl⟩ := List.mem_map.1 hr;have h2 : (j.segs ++ [s]).Pairwise fun a b => a.k < b.k := by
    have h3 : aJ1 dC8 (j.segs ++ [s]) := aI3.2 ⟨h.ch.ks, n3⟩;have h4 : ∀ (l : List aB1), aJ1 dC8 l -> l.Pairwise fun a b => a.k < b.k := by
     intro l;induction l with
     | nil => intro _; exact List.Pairwise.nil
     | cons a r ih =>
      intro hl;have h5 := ih (bL2 hl);refine List.pairwise_cons.2 ⟨fun y hy => ?_, h5⟩;cases r with
      | nil => cases hy
      | cons b r =>
       have h6 : b.k = a.k + 1 := hl.1;rcases List.mem_cons.1 hy with rfl | h7
       ·omega
       have := (List.pairwise_cons.1 h5).1 y h7;omega
    exact h4 _ h3
   exact (List.pairwise_append.1 h2).2.2 x hx s (by simp)
  have a8 : aA9 (aA1 s.k) fs = none := by
   refine bH3 fun q hq e => ?_
   rcases hF.only q hq with h2 | h2 | ⟨r, hr, h2⟩
   ·exact aM8 s.k (e.symm.trans h2)
   ·exact aJ9 s.k (e.symm.trans h2)
   have h3 := b8 r hr;have h4 := hF.num r hr;exact bH6 (a := s.k) (b := r.1) (by omega) (by omega) (by omega) (e.symm.trans h2)
  have g6 : (aA9 (aA1 s.k) fs).getD ⟨[], 0⟩ = ⟨[], 0⟩ := by rw [a8]; rfl
  let S : List (Nm × FD) -> Prop := fun x => ∃ r n lo, (r = 0 ∨ (aC8 s).length <= lo) ∧ r <= j.segs.length ∧ lo <= n ∧ n <= (aC8 s).length ∧ FX x ((j.segs.drop r).map aH4 ++ [(s.k, ⟨(aC8 s).take n, lo⟩)]) mo none
  have o1 := cF2 (room := room) (fs := fs) (S := S) (bH7 s.k hk) (aC8 s) g8 (fun m hm => ⟨0, m, 0, .inl rfl, Nat.zero_le _, Nat.zero_le _, hm, by
   rw [g6];exact hF.put hk b8 (.inl rfl)⟩)
  rw [g6, List.nil_append] at o1;have f1 : FX (aB3 (aA1 s.k) ⟨aC8 s, 0⟩ fs) (j.segs.map aH4 ++ [(s.k, ⟨aC8 s, 0⟩)]) mo none := hF.put hk b8 (.inl rfl);have o2 := bU2 (room := room) (S := S) (f1.has (s.k, ⟨aC8 s, 0⟩) (by simp)) ⟨0, (aC8 s).length, 0, .inl rfl, Nat.zero_le _, Nat.zero_le _, lR _, by rw [List.take_length]; exact f1⟩;have f2 : FX (aB3 (aA1 s.k) ⟨aC8 s, (aC8 s).length⟩ (aB3 (aA1 s.k) ⟨aC8 s, 0⟩ fs)) (j.segs.map aH4 ++ [aH4 s]) mo none := f1.put hk b8 (.inr ⟨_, rfl⟩);obtain ⟨f7, o3, f3⟩ := cF3 (room := room) (S := S) f2 (fun m hm x hx => ⟨m, (aC8 s).length, (aC8 s).length, .inr (lR _), by simpa using hm, lR _, lR _, by
   rw [List.take_length, List.map_drop];exact hx⟩)
  rw [List.map_map] at o3;have o := (o1.append o2).append o3;rcases o pw hp with ⟨a7, h3, h4, h5⟩ | ⟨a7, e9, h3, h4, r, n, lo, a9, h5, h6, h7, h8⟩
  ·left
   have h6 : aG1 ([aC3.app (aA1 s.k) (aC8 s), .sync (aA1 s.k)] ++ j.segs.map fun x => aC3.rm (aA1 x.k)) ⟨pw, room, fs⟩ = _ := h5;rw [h6];refine ⟨by show (0 : Int) ≠ 50; decide, a7, f7, rfl, h3, h4, ?_⟩;show Good ⟨j.term, j.vote, [s], j.bad⟩ _
   exact ⟨h.bad, aE9.snoc aE9.nil ⟨n1, hk⟩ (fun y hy => by cases hy), ⟨mo, f3, hM⟩, h.num⟩
  right
  have h9 : aG1 ([aC3.app (aA1 s.k) (aC8 s), .sync (aA1 s.k)] ++ j.segs.map fun x => aC3.rm (aA1 x.k)) ⟨pw, room, fs⟩ = _ := h4;rw [h9];refine ⟨h3, rfl, a7, e9, rfl, fun keep => ?_⟩;have f9 : ∀ y, (j.segs.drop r).getLast? = some y -> j.segs.getLast? = some y := fun y hy => by
   rw [List.getLast?_drop] at hy;split at hy
   ·cases hy
   exact hy
  obtain ⟨m, W, d', hm, hW, w1, w2, hd⟩ := aY0 (pw := a7) (room := room) h8 (h.ch.drop r) n1 ⟨h6, h7⟩ (fun y hy => n3 y (f9 y hy)) f8 (fun f hf => by cases hf) keep;refine ⟨_, d', hd, ⟨rfl, rfl⟩, ?_⟩;have i4 : (aM1 s).length = 1 := by unfold aM1; rw [d8.2.2]; rfl
  by_cases hW0 : W = 0
  ·rw [if_pos hW0, aJ3 (h.ch.drop r).go]
   by_cases hr : r < j.segs.length
   ·exact .inl ⟨r, .inl hr, rfl⟩
   rcases a9 with a9 | a9
   ·exact .inl ⟨r, .inr a9, rfl⟩
   exfalso
   rcases w2 with w2 | w2
   ·omega
   rw [hW0, List.take_of_length_le (by omega)] at w2;have : (cat (aM1 s)).length = (aC8 s).length := rfl;omega
  have g9 : W = 1 := by omega
  subst g9;have i1 : bS5 s s.k 1 = s := by have := cI3 n1; rw [i4] at this; exact this
  rw [if_neg (by decide), i1, cE7 (h.ch.drop r).go (fun y hy => n5 rfl y (f9 y hy))];right
  refine ⟨by unfold JnP.ents; simp [d8.2.2], ?_⟩;show (s.first - 1, s.term) = (ix, t)
  rw [d8.1, d8.2.1];simp
end
end
section
open Oct
theorem bF2 : ∀ (l : List aF9) (base last : Int) (prev : Option Int), aR8 base l last prev = true -> ∀ i (h : i < l.length), (base < l[i].ix ∧ l[i].ix ≠ aD6 ∧ 0 <= l[i].tm ∧ 0 <= l[i].kd) ∧ (i = 0 -> l[i].ix - 1 <= last ∧ ∀ p, prev = some p -> l[i].ix - 1 = p) ∧ ∀ h0 : 0 < i, l[i].ix = (l[i - 1]'(by omega)).ix + 1
 | [], _, _, _, _, i, h => by cases h
 | e :: r, base, last, prev, hm, i, h => by
  unfold aR8 at hm;rw [Bool.and_eq_true] at hm;obtain ⟨h1, h2⟩ := hm;have h3 : (base < e.ix ∧ e.ix ≠ aD6 ∧ 0 <= e.tm ∧ 0 <= e.kd) ∧ e.ix - 1 <= last ∧ ∀ p, prev = some p -> e.ix - 1 = p := by
   simp only [Bool.not_eq_true', Bool.or_eq_false_iff, decide_eq_false_iff_not] at h1;obtain ⟨⟨⟨⟨⟨a1, a2⟩, a3⟩, a4⟩, a5⟩, a6⟩ := h1;refine ⟨⟨by omega, a3, by omega, by omega⟩, by omega, fun p hp => ?_⟩;subst hp;simp only [decide_eq_false_iff_not, Decidable.not_not] at a4;exact a4
  cases i with
  | zero => exact ⟨h3.1, fun _ => h3.2, fun h0 => absurd h0 (by omega)⟩
  | succ i =>
   have h4 : i < r.length := by simpa using h
   have ih := bF2 r base e.ix (some e.ix) h2 i h4;refine ⟨ih.1, fun h0 => absurd h0 (by omega), fun _ => ?_⟩;cases i with
   | zero =>
    have := (ih.2.1 rfl).2 e.ix rfl;simp only [List.getElem_cons_succ, Nat.add_sub_cancel];show r[0].ix = e.ix + 1
    omega
   | succ i => exact ih.2.2 (by omega)
structure dP6 (j : JnP) (l : List aF9) (ix : Int) : Prop where
 ne : 0 < l.length
 first : (l[0]'(ne)).ix = ix
 ents : ∀ e ∈ l, dH9 e
 ixs : ∀ i (h : i < l.length), l[i].ix = ix + i
 top : ix + l.length <= aD6
 base : j.base.1 < ix
 last : ix - 1 <= j.last.1
theorem dN4 {j : JnP} {e0 : aF9} {r : List aF9} (hm : bT8 j (e0 :: r) = 0) (a8 : ∀ e ∈ e0 :: r, e.ix <= 9223372036854775807 ∧ e.tm <= 9223372036854775807 ∧ e.kd <= 9223372036854775807) : dP6 j (e0 :: r) e0.ix := by
 have a9 : aR8 j.base.1 (e0 :: r) j.last.1 none = true := by
  unfold bT8 at hm;by_cases h : aR8 j.base.1 (e0 :: r) j.last.1 none = false
  ·rw [if_pos h] at hm; cases hm
  simpa using h
 have a7 : ((e0 :: r).any fun e => decide (65535 < e.b.length)) = false := by
  unfold bT8 at hm;rw [if_neg (by rw [a9]; simp)] at hm;by_cases h : ((e0 :: r).any fun e => decide (65535 < e.b.length)) = true
  ·rw [if_pos h] at hm; cases hm
  simpa using h
 have hf := bF2 (e0 :: r) _ _ _ a9;have b8 : ∀ i (h : i < (e0 :: r).length), (e0 :: r)[i].ix = e0.ix + i := by
  intro i;induction i with
  | zero => intro h; simp
  | succ i ih =>
   intro h;have h1 := (hf (i + 1) h).2.2 (by omega);have h2 := ih (by omega);simp only [Nat.add_sub_cancel] at h1;rw [h1, h2];omega
 have hb : ∀ e ∈ e0 :: r, e.b.length <= 65535 := fun e he => by
  rw [List.any_eq_false] at a7;have := a7 e he;simp at this
  exact this
 refine ⟨by simp, rfl, fun e he => ?_, b8, ?_, ?_, ?_⟩
 ·obtain ⟨i, hi, rfl⟩ := List.getElem_of_mem he
  have h1 := (hf i hi).1;have h2 := a8 _ (lX hi);exact ⟨⟨h1.2.2.1, h2.2.1⟩, ⟨h1.2.2.2, h2.2.2⟩, hb _ (lX hi)⟩
 ·have h1 := (hf r.length (by simp)).1
  have h2 := b8 r.length (by simp);have h3 := (a8 _ (lX (l := e0 :: r) (n := r.length) (by simp))).1;unfold aD6 at h1 ⊢;rw [mC];omega
 ·have h1 := (hf 0 (by simp)).1.1
  exact h1
 exact ((hf 0 (by simp)).2.1 rfl).1
theorem aY9 (segs : List aB1) (ix : Int) : ∀ n, 1 <= n -> n <= segs.length -> (1 <= aN9 segs ix n ∧ aN9 segs ix n <= n) ∧ (∀ s, 1 < aN9 segs ix n -> segs[aN9 segs ix n - 1]? = some s -> s.first < ix) ∧ ∀ s, aN9 segs ix n < n -> segs[aN9 segs ix n]? = some s -> ix <= s.first
 | 0, h, _ => absurd h (by omega)
 | 1, _, _ => ⟨⟨lR _, lR _⟩, fun s h => absurd h (by show ¬ 1 < 1; omega), fun s h => absurd h (by show ¬ 1 < 1; omega)⟩
 | n + 2, _, hl => by
  have hg : segs[n + 1]? = some (segs[n + 1]'(by omega)) := lW (by omega);by_cases h : ix <= (segs[n + 1]'(by omega)).first
  ·have he : aN9 segs ix (n + 2) = aN9 segs ix (n + 1) := by
    conv => lhs; unfold aN9
    rw [hg];simp only [h, if_true]
   obtain ⟨⟨h1, h2⟩, h3, h4⟩ := aY9 segs ix (n + 1) (by omega) (by omega);rw [he];refine ⟨⟨h1, by omega⟩, h3, fun s hs hg2 => ?_⟩;by_cases h5 : aN9 segs ix (n + 1) < n + 1
   ·exact h4 s h5 hg2
   have h6 : aN9 segs ix (n + 1) = n + 1 := by omega
   rw [h6, hg] at hg2;injection hg2 with hg2
   rw [<- hg2];exact h
  have he : aN9 segs ix (n + 2) = n + 2 := by
   conv => lhs; unfold aN9
   rw [hg];simp only [h, if_false]
  rw [he];refine ⟨⟨by omega, lR _⟩, fun s _ hg2 => ?_, fun s hs => absurd hs (by omega)⟩;rw [show n + 2 - 1 = n + 1 by omega, hg] at hg2;injection hg2 with hg2
  rw [<- hg2];omega
theorem cQ8 {s : aB1} (h : aT6 s) {ix : Int} (h1 : s.first <= ix) (h2 : ix - 1 <= s.last.1) : ∃ a : Nat, (a : Int) = ix - s.first ∧ a <= s.l.length ∧ s.ahead ix = bS5 s s.k (a + 1) ∧ aT6 (s.ahead ix) ∧ (s.ahead ix).last.1 = ix - 1 := by
 have h3 := h.lastIx;obtain ⟨a, ha⟩ : ∃ a : Nat, (a : Int) = ix - s.first := ⟨(ix - s.first).toNat, by omega⟩
 have a7 : a <= s.l.length := by omega
 have hN : s.aheadN ix = a := by
  unfold aB1.aheadN;rw [<- ha];simp
  omega
 have he : s.ahead ix = bS5 s s.k (a + 1) := by
  unfold aB1.ahead;rw [hN]
  rfl
 have hc : aT6 (s.ahead ix) := by rw [he]; exact bI9 h s.k a
 refine ⟨a, ha, a7, he, hc, ?_⟩;rw [hc.lastIx, he];show s.first + ((s.l.take a).length : Int) - 1 = _
 rw [lV];omega
theorem aQ0 : ∀ (l : List aF9) {c : aB1}, aT6 c -> (∀ e ∈ l, dH9 e) -> (∀ i (h : i < l.length), l[i].ix = c.first + c.l.length + i) -> c.first + c.l.length + l.length <= aD6 -> aT6 (aA6 c l) ∧ aC8 (aA6 c l) = aC8 c ++ (l.map aC9).flatten
 | [], c, h, _, _, _ => ⟨h, by simp [aA6]⟩
 | e :: r, c, h, hE, hi, ht => by
  have he := hE e List.mem_cons_self;have hp : aC9 e = aE1 (enP e) := cT9 he;have h0 : e.ix = c.first + c.l.length := by have := hi 0 (by simp); simpa using this
  rw [mC] at ht;have hpay : ∀ ends, aM1 (⟨c.k, c.first, c.term, c.l ++ [e], ends⟩ : aB1) = aM1 c ++ [enP e] := fun ends => by unfold aM1; simp
  have hlong := h.long;have hc2 : aT6 ({ c with l := c.l ++ [e], ends := c.ends ++ [c.long + (aC9 e).length] } : aB1) := by
   refine ⟨h.first, h.term, fun x hx => ?_, fun i hil => ?_, ?_, ?_⟩
   ·rcases List.mem_append.1 hx with h1 | h1
    ·exact h.ents x h1
    rw [List.mem_singleton.1 h1]; exact he
   ·have a7 : i < (c.l ++ [e]).length := hil
    have h1 : ((c.l ++ [e])[i]'(a7)).ix = c.first + i := by
     rw [lT, List.length_singleton] at a7;by_cases h2 : i < c.l.length
     ·rw [List.getElem_append_left h2]; exact h.ixs i h2
     have h3 : i = c.l.length := by omega
     subst h3;simp [h0]
    exact h1
   ·show c.first + ((c.l ++ [e]).length : Int) <= aD6
    rw [lT, List.length_singleton];omega
   show c.ends ++ [c.long + ((aC9 e).length : Int)] = aI2 0 (aM1 ⟨c.k, c.first, c.term, c.l ++ [e], _⟩)
   rw [hpay, bE7, <- h.ends, hlong, hp];show _ = c.ends ++ aI2 (0 + ((cat (aM1 c)).length : Int)) [enP e]
   rw [aI2, aI2, Int.zero_add]
   rfl
  have ih := aQ0 r hc2 (fun x hx => hE x (List.mem_cons_of_mem _ hx)) (fun i hil => by
   have := hi (i + 1) (by simp; omega);rw [List.getElem_cons_succ] at this;rw [this];show c.first + (c.l.length : Int) + ((i + 1 : Nat) : Int) = c.first + ((c.l ++ [e]).length : Int) + (i : Int)
   rw [lT, List.length_singleton];omega) (by
   show c.first + ((c.l ++ [e]).length : Int) + (r.length : Int) <= aD6
   rw [lT, List.length_singleton];omega)
  rw [aA6];refine ⟨ih.1, ?_⟩;rw [ih.2, mG, List.flatten_cons, <- List.append_assoc]
  congr 1
  show cat (aM1 ⟨c.k, c.first, c.term, c.l ++ [e], _⟩) = cat (aM1 c) ++ aC9 e
  rw [hpay, bB9, hp, aN1, bC0, List.append_nil]
theorem bY0 {k ix t : Int} (h1 : 1 <= ix) (h2 : ix < aD6) (ht : 0 <= t ∧ t <= 9223372036854775807) : aT6 ⟨k, ix, t, [], [((aE4 ix t).length : Int)]⟩ ∧ aC8 ⟨k, ix, t, [], [((aE4 ix t).length : Int)]⟩ = aE4 ix t := by
 have hh : aE4 ix t = aE1 (hdP ix t) := cJ6 (by unfold aD6 at h2; omega) ⟨by omega, ht.2⟩;refine ⟨⟨⟨h1, h2⟩, ht, fun e he => (by cases he), fun i hi => (by cases hi), (by show ix + 0 <= _; omega), ?_⟩, ?_⟩
 ·show [((aE4 ix t).length : Int)] = aI2 0 [hdP ix t]
  rw [aI2, aI2, hh, Int.zero_add]
 show cat [hdP ix t] = _
 rw [aN1, bC0, List.append_nil, hh]
theorem aT6.last2 {s : aB1} (h : aT6 s) : 0 <= s.last.2 ∧ s.last.2 <= 9223372036854775807 := by
 unfold aB1.last;split
 ·exact h.term
 rename_i e he
 exact (h.ents e (List.mem_of_getLast? he)).tm
theorem cD4 {s : aB1} (k : Int) (a : Nat) : aC8 (bS5 s k (a + 1)) = cat ((aM1 s).take (a + 1)) := by
 show cat (hdP s.first s.term :: (s.l.take a).map enP) = _
 unfold aM1;rw [List.take_succ_cons, List.map_take]
theorem bW5 : ∀ {A : List aB1} {s b : aB1}, aE9 (A ++ [s]) -> (A ++ [s]).head? = some b -> ((A.map aB1.l).flatten.length : Int) = s.first - b.first := by
 intro A;induction hn : A.length generalizing A with
 | zero =>
  intro s b h hb;obtain rfl := mD hn;simp only [List.nil_append, List.head?_cons, Option.some.injEq] at hb;subst hb;simp
 | succ n ih =>
  intro s b h hb;rcases mJ A with h0 | ⟨B, t, h0⟩
  ·rw [h0] at hn; cases hn
  rw [mA] at h0;subst h0;have a7 : (B ++ [t]).head? = some b := by
   rw [List.head?_append] at hb;cases hx : (B ++ [t]).head? with
   | none =>
    rw [List.head?_eq_none_iff] at hx;simp at hx
   | some y => rw [hx] at hb; simpa using hb
  have hi := ih (by simpa using hn) h.left a7;have hg := (aP1 _ _).1 (h.last t (by simp)).2;have ht := (h.left.seg t (by simp)).1.lastIx;rw [mE, List.flatten_append, lT, List.map_singleton, List.flatten_singleton];omega
end
section
open Oct
def aZ5 (j : JnP) (l : List aF9) (ix : Int) (k : JnP) : Prop :=
 (k.term = j.term ∧ k.vote = j.vote) ∧ k.base = j.base ∧ ((∃ n : Nat, ix - 1 - j.base.1 <= n ∧ n <= j.ents.length ∧ k.ents = j.ents.take n) ∨ ∃ q m : Nat, (q : Int) = ix - 1 - j.base.1 ∧ q <= j.ents.length ∧ m <= l.length ∧ k.ents = j.ents.take q ++ l.take m)
def aL4 (A : List aB1) : List aF9 := (A.map aB1.l).flatten
theorem aE8 (A B : List aB1) : aL4 (A ++ B) = aL4 A ++ aL4 B := by unfold aL4; rw [mE, List.flatten_append]
section
variable {pw : PWD} {room : Int} {fs : List (Nm × FD)} {mo nw : Option FD} {S : List (Nm × FD) -> Prop}
theorem bL9 {A : List (Int × FD)} : ∀ (n : Nat) (G : List aB1), G.length = n -> ∀ {fs : List (Nm × FD)}, FX fs (A ++ G.map aH4) mo nw -> (∀ m, m <= G.length -> ∀ x, FX x (A ++ (G.take m).map aH4) mo nw -> S x) -> ∃ a7, Out room (G.reverse.map fun s => aC3.rm (aA1 s.k)) fs S a7 ∧ FX a7 A mo nw ∧ aB7 a7 + (G.map fun s => ((aC8 s).length : Int)).sum = aB7 fs
 | 0, G, hn, fs, h, _ => by
  obtain rfl := mD hn;rw [List.map_nil, List.append_nil] at h;exact ⟨fs, Out.nil, h, by simp⟩
 | n + 1, G, hn, fs, h, hS => by
  rcases mJ G with h0 | ⟨G', s, h0⟩
  ·rw [h0] at hn; cases hn
  rw [mA] at h0;subst h0;have hx : FX fs ((A ++ G'.map aH4) ++ aH4 s :: []) mo nw := by
   rw [mE, List.map_singleton, <- List.append_assoc] at h;exact h
  have hg : aA9 (aA1 s.k) fs = some (fdS (aC8 s)) := hx.has (aH4 s) (by simp);have h2 : FX (aB6 (aA1 s.k) fs) (A ++ G'.map aH4) mo nw := by
   have := FX.rm (A := A ++ G'.map aH4) (B := []) hx;rw [List.append_nil] at this;exact this
  have o1 := dH5 (room := room) (S := S) hg (hS (G' ++ [s]).length (lR _) _ (by rw [List.take_length]; exact h)) (hS G'.length (by simp) _ (by rw [List.take_append_of_le_length (lR _), List.take_length]; exact h2));obtain ⟨a7, o2, h3, h4⟩ := bL9 n G' (by simpa using hn) h2 (fun m hm x hx => hS m (by simp; omega) x (by rw [List.take_append_of_le_length hm]; exact hx));refine ⟨a7, by rw [List.reverse_append, mE]; exact o1.append o2, h3, ?_⟩;have h5 := bX1 hg h.rise;rw [mE, List.sum_append];simp only [mG, List.map_nil, List.sum_cons, List.sum_nil];have h6 : (fdS (aC8 s)).b.length = (aC8 s).length := rfl;rw [h6] at h5;omega
theorem dD8 {A : List aB1} {s c : aB1} (h : FX fs (A.map aH4 ++ [aH4 s]) mo nw) (hs : aT6 s) (hc : aT6 c) (hk : c.k = s.k) (hp : ∃ r, aC8 s = aC8 c ++ r) (h0 : ∀ x, FX x (A.map aH4 ++ [aH4 s]) mo nw -> S x) (h1 : ∀ x, FX x (A.map aH4 ++ [aH4 c]) mo nw -> S x) :
  ∃ fs1, Out room (aR1 s c) fs S fs1 ∧ FX fs1 (A.map aH4 ++ [aH4 c]) mo nw ∧ aB7 fs1 + aO4 s c <= aB7 fs := by
 obtain ⟨r, hr⟩ := hp;have e9 := hs.long;have d8 := hc.long;have a9 : (aC8 s).length = (aC8 c).length + r.length := by rw [hr, lT]
 unfold aR1 aO4;by_cases hlt : c.long < s.long
 rotate_left
 ·rw [if_neg hlt, if_neg hlt]
  have b8 : r = [] := mD (by omega);rw [b8, List.append_nil] at hr;have he : aH4 c = aH4 s := by unfold aH4; rw [hk, hr]
  rw [he];exact ⟨fs, Out.nil, h, by omega⟩
 rw [if_pos hlt, if_pos hlt];have hg : aA9 (aA1 s.k) fs = some (fdS (aC8 s)) := h.has (aH4 s) (by simp);have a8 := h.num (aH4 s) (by simp);have hA : ∀ r ∈ A.map aH4, r.1 < s.k := fun x hx => (List.pairwise_append.1 h.ks).2.2 x hx (aH4 s) (by simp)
 have hf : (⟨(fdS (aC8 s)).b.take c.long.toNat, min (fdS (aC8 s)).safe c.long.toNat⟩ : FD) = fdS (aC8 c) := by
  have h2 : c.long.toNat = (aC8 c).length := by omega
  show (⟨(aC8 s).take c.long.toNat, min (aC8 s).length c.long.toNat⟩ : FD) = ⟨aC8 c, (aC8 c).length⟩
  rw [h2, hr, List.take_left, lT]
  congr 1
  omega
 have a7 : FX (aB3 (aA1 s.k) (fdS (aC8 c)) fs) (A.map aH4 ++ [aH4 c]) mo nw := by
  have := h.put (k := s.k) (f' := fdS (aC8 c)) (A := A.map aH4) a8 hA (.inr ⟨_, rfl⟩);have he : aH4 c = (s.k, fdS (aC8 c)) := by unfold aH4; rw [hk]
  rw [he];exact this
 have o := dK2 (room := room) (S := S) (k := c.long) hg (by show 0 <= c.long ∧ c.long <= ((aC8 s).length : Int); omega) (h0 _ h) (h1 _ (by rw [hf]; exact a7));rw [hf] at o;refine ⟨_, o, a7, ?_⟩;have h5 := bX1 hg h.rise;have h6 := bC5 (aA1 s.k) (fdS (aC8 c)) fs;have h7 : (fdS (aC8 s)).b.length = (aC8 s).length := rfl;have h8 : (fdS (aC8 c)).b.length = (aC8 c).length := rfl;rw [h7] at h5;rw [h8] at h6;omega
theorem aZ3 {j : JnP} (h : Good j fs) (hp : pw.off = false) {l : List aF9} {do12 : List aC3} {freed : Int} {K : List aB1} {s0 : aB1} {bh ob : List UInt8} {fs2 : List (Nm × FD)} {R2 : List (Int × FD)} {P : JnP -> Prop} (l6 : FX fs (j.segs.map aH4) mo none) (hM : cH4 j.term j.vote mo)
  (o12 : Out room do12 fs S fs2) (f9 : FX fs2 R2 mo none) (i4 : R2 = K.map aH4 ∨ R2 = K.map aH4 ++ [(s0.k, fdS ob)]) (j8 : (aA9 (aA1 s0.k) fs2).getD ⟨[], 0⟩ = ⟨ob, ob.length⟩) (j6 : ∀ r ∈ K.map aH4, r.1 < s0.k) (l8 : 1 <= s0.k) (l9 : aB7 fs2 + freed <= aB7 fs)
  (g8 : aT6 (aA6 s0 l)) (a7 : aC8 (aA6 s0 l) = ob ++ (bh ++ (l.map aC9).flatten)) (g7 : (aA6 s0 l).k <= 999999999 -> aE9 (K ++ [aA6 s0 l])) (hK : aE9 K) (i1 : ∀ y, K.getLast? = some y -> s0.k = y.k + 1)
  (i3 : ∀ x, S x -> ∀ (a8 : PWD) (keep : List Int), ∃ k d', aL5 (DkD.boot ⟨a8, room, x⟩ keep) = (0, some k, d') ∧ P k)
  (g6 : ∀ m W, ob.length <= m -> W <= (aM1 (aA6 s0 l)).length -> (cat ((aM1 (aA6 s0 l)).take W)).length <= m -> (W = (aM1 (aA6 s0 l)).length ∨ m < (cat ((aM1 (aA6 s0 l)).take (W + 1))).length) -> (aA6 s0 l).k <= 999999999 -> P ⟨j.term, j.vote, aE0 [] (if W = 0 then K else K ++ [bS5 (aA6 s0 l) (aA6 s0 l).k W]), 0⟩) :
  aR0 pw room (aX6 j ⟨pw, room, fs⟩ l do12 freed K s0 bh) P := by
 have i2 := hM.of h.num.1 h.num.2;have b8 := (aN5 l s0).1;obtain ⟨s1, f7⟩ : ∃ s, s = aA6 s0 l := ⟨_, rfl⟩
 unfold aX6;rw [<- f7] at g8 a7 g7 g6 b8 ⊢;split
 ·exact aR0.same h hp (by decide)
 rename_i h9
 split
 ·exact aR0.same h hp (by decide)
 rename_i h52
 have hk : 1 <= s1.k ∧ s1.k <= 999999999 := by omega
 obtain ⟨p, j9⟩ : ∃ p, p = bh ++ (l.map aC9).flatten := ⟨_, rfl⟩
 rw [<- j9] at a7 h52 ⊢;have l4 : (p.length : Int) <= room - aB7 fs2 := by
  unfold DkD.free at h52;simp only at h52;omega
 have hA : ∀ r ∈ K.map aH4, r.1 < s1.k := fun r hr => by rw [b8]; exact j6 r hr
 have hR : R2 = K.map aH4 ∨ ∃ f, R2 = K.map aH4 ++ [(s1.k, f)] := i4.imp id fun e => ⟨fdS ob, by rw [b8]; exact e⟩
 have d8 : (aA9 (aA1 s1.k) fs2).getD ⟨[], 0⟩ = ⟨ob, ob.length⟩ := by rw [b8]; exact j8
 have l7 : (aC8 s1).length = ob.length + p.length := by rw [a7, lT]
 let S1 : List (Nm × FD) -> Prop := fun x => S x ∨ ∃ n lo, lo <= n ∧ n <= (aC8 s1).length ∧ ob.length <= lo ∧ FX x (K.map aH4 ++ [(s1.k, ⟨(aC8 s1).take n, lo⟩)]) mo none
 have e9 : ∀ m, m <= p.length -> ob ++ p.take m = (aC8 s1).take (ob.length + m) := fun m hm => by rw [a7, List.take_length_add_append]
 have o1 := cF2 (room := room) (fs := fs2) (S := S1) (bH7 s1.k hk) p l4 (fun m hm => .inr ⟨ob.length + m, ob.length, by omega, by omega, lR _, by
  rw [d8];show FX (aB3 (aA1 s1.k) ⟨ob ++ p.take m, ob.length⟩ fs2) _ _ _
  rw [e9 m hm];exact f9.put hk hA hR⟩)
 rw [d8] at o1;have a9 : ob ++ p = aC8 s1 := a7.symm;have l5 : Out room [.app (aA1 s1.k) p] fs2 S1 (aB3 (aA1 s1.k) ⟨aC8 s1, ob.length⟩ fs2) := by
  rw [<- a9];exact o1
 have f1 : FX (aB3 (aA1 s1.k) ⟨aC8 s1, ob.length⟩ fs2) (K.map aH4 ++ [(s1.k, ⟨aC8 s1, ob.length⟩)]) mo none := f9.put hk hA hR;have o2 := bU2 (room := room) (S := S1) (f1.has (s1.k, ⟨aC8 s1, ob.length⟩) (by simp)) (.inr ⟨(aC8 s1).length, ob.length, by omega, lR _, lR _, by rw [List.take_length]; exact f1⟩);have f2 : FX (aB3 (aA1 s1.k) ⟨aC8 s1, (aC8 s1).length⟩ (aB3 (aA1 s1.k) ⟨aC8 s1, ob.length⟩ fs2)) (K.map aH4 ++ [aH4 s1]) mo none := f1.put hk hA (.inr ⟨_, rfl⟩);have o := (o12.mono (S' := S1) fun x hx => .inl hx).append (l5.append o2);have i6 : do12 ++ ([aC3.app (aA1 s1.k) p] ++ [aC3.sync (aA1 s1.k)]) = do12 ++ [.app (aA1 s1.k) p, .sync (aA1 s1.k)] := rfl;rw [i6] at o;rcases o pw hp with ⟨a8, h3, h4, h5⟩ | ⟨a8, f8, h3, h4, h5⟩
 ·left
  rw [h5];refine ⟨by show (0 : Int) ≠ 50; decide, a8, _, rfl, h3, h4, ?_⟩;show Good ⟨j.term, j.vote, K ++ [s1], j.bad⟩ _
  exact ⟨h.bad, g7 hk.2, ⟨mo, by rw [mE]; exact f2, hM⟩, h.num⟩
 right
 rw [h4];refine ⟨h3, rfl, a8, f8, rfl, fun keep => ?_⟩;rcases h5 with h5 | ⟨n, lo, h6, h7, h8, g9⟩
 ·exact i3 f8 h5 a8 keep
 obtain ⟨m, W, d', hm, hW, w1, w2, hd⟩ := aY0 (pw := a8) (room := room) g9 hK g8 ⟨h6, h7⟩ (fun y hy => by rw [b8]; exact i1 y hy) i2 (fun f hf => by cases hf) keep;exact ⟨_, d', hd, g6 m W (by omega) hW w1 w2 hk.2⟩
end
end
section
open Oct
theorem aV1 (j : JnP) : j.ents = aL4 j.segs := rfl
theorem cC9 {t v : Int} {A : List aB1} {b : aB1} {n : Int} (h : A.head? = some b) : (⟨t, v, A, n⟩ : JnP).base = (b.first - 1, b.term) := by
 unfold JnP.base;cases A with
 | nil => cases h
 | cons x r => injection h with h; rw [<- h]
theorem bS2 {j : JnP} {b : aB1} (h : j.segs.head? = some b) : j.base = (b.first - 1, b.term) := by
 obtain ⟨t, v, A, n⟩ := j;exact cC9 h
theorem bU4 {c : aB1} (l : List aF9) : aM1 (aA6 c l) = aM1 c ++ l.map enP := by
 have h1 := (aK5 l c).1;have h2 := (aN5 l c).2;unfold aM1;rw [h1, h2.1, h2.2];simp
section
variable {pw : PWD} {room : Int} {fs : List (Nm × FD)}
theorem bM6 {j : JnP} {l : List aF9} {ix : Int} {A B : List aB1} {b : aB1} (hs : j.segs = A ++ B) (hb : A.head? = some b) (hk : ix - 1 - j.base.1 <= (aL4 A).length) : aZ5 j l ix ⟨j.term, j.vote, A, 0⟩ := by
 have a7 : j.segs.head? = some b := by rw [hs, List.head?_append, hb]; rfl
 have he : j.ents = aL4 A ++ aL4 B := by rw [aV1, hs, aE8]
 refine ⟨⟨rfl, rfl⟩, by rw [cC9 hb, bS2 a7], .inl ⟨(aL4 A).length, hk, ?_, ?_⟩⟩
 ·rw [he, lT]; omega
 rw [he];show aL4 A = _
 rw [List.take_left]
theorem bR4 {j : JnP} (h : Good j fs) (hp : pw.off = false) {l : List aF9} (l6 : ∀ e ∈ l, e.ix <= 9223372036854775807 ∧ e.tm <= 9223372036854775807 ∧ e.kd <= 9223372036854775807) :
  aR0 pw room (aI9 j ⟨pw, room, fs⟩ l) (fun k => ∃ e0 r, l = e0 :: r ∧ 0 < e0.ix ∧ aZ5 j l e0.ix k) := by
 by_cases hm : bT8 j l = 0
 rotate_left
 ·have he : aI9 j ⟨pw, room, fs⟩ l = (bT8 j l, j, ⟨pw, room, fs⟩) := by
   unfold aI9;rw [if_neg (by rw [h.bad]; simp), if_pos hm]
  rw [he];exact aR0.same h hp (cW6 j l)
 cases l with
 | nil =>
  have he : aI9 j ⟨pw, room, fs⟩ [] = (0, j, ⟨pw, room, fs⟩) := by
   unfold aI9;rw [if_neg (by rw [h.bad]; simp), if_neg (by rw [hm]; simp)]
  rw [he];exact aR0.same h hp (by decide)
 | cons e0 r =>
  have hL := dN4 hm l6;have B2 := Good.base_nonneg h.ch;have j8 : 0 < e0.ix := by have := hL.base; omega
  obtain ⟨mo, hF, hM⟩ := h.fx;have q9 := hM.of h.num.1 h.num.2;rw [bV1 h.bad hm rfl];obtain ⟨l, hl⟩ : ∃ l, l = e0 :: r := ⟨_, rfl⟩
  rw [<- hl] at hL ⊢;obtain ⟨ix, m0⟩ : ∃ ix, ix = e0.ix := ⟨_, rfl⟩
  rw [<- m0] at hL j8 ⊢
  -- what is asked of an outcome
  have g7 : ∀ rr, aR0 pw room rr (fun k => aZ5 j l ix k) -> aR0 pw room rr (fun k => ∃ e0 r, l = e0 :: r ∧ 0 < e0.ix ∧ aZ5 j l e0.ix k) := fun rr hA => by
   rcases hA with h1 | ⟨h1, h2, l8, q7, h3, h4⟩
   ·exact .inl h1
   refine .inr ⟨h1, h2, l8, q7, h3, fun keep => ?_⟩;obtain ⟨k, d', h5, h6⟩ := h4 keep;exact ⟨k, d', h5, e0, r, hl, by rw [<- m0]; exact j8, by rw [<- m0]; exact h6⟩
  refine g7 _ ?_;clear g7 hl m0 hm l6;have B4 := hL.ne;have l7 := hL.top;have l4 : ix < aD6 := by omega
  obtain ⟨N, hN⟩ : ∃ N, N = aN9 j.segs ix j.segs.length := ⟨_, rfl⟩
  rcases mJ (j.segs.take N) with h0 | ⟨kr, s, h0⟩
  ·-- no segment
   have f9 : j.segs = [] := by
    by_cases hz : 1 <= j.segs.length
    ·have h1 := (aY9 j.segs ix j.segs.length hz (lR _)).1
     rw [<- hN] at h1;have h2 := congrArg List.length h0;rw [lV] at h2;simp at h2
     rcases h2 with h2 | h2
     ·omega
     exact h2
    exact mD (by omega)
   have a8 : j.base = (0, 0) := by unfold JnP.base; rw [f9]
   have f7 : j.last = (0, 0) := by unfold JnP.last; rw [f9]; rfl
   have j9 : ix = 1 := by
    have h1 := hL.base;have h2 := hL.last;rw [a8] at h1;rw [f7] at h2;simp only at h1 h2;omega
   rw [bD5 hN h0];have hg : aO5 j N = [] := by unfold aO5; rw [f9]; simp
   have t9 : aH8 j N + 0 = 0 := by unfold aH8; rw [hg]; rfl
   rw [hg, t9];have hh := bY0 (k := 1) (ix := ix) (t := 0) (by omega) l4 ⟨by omega, by omega⟩;have hA := aQ0 l hh.1 hL.ents (fun i hi => by rw [hL.ixs i hi]; simp) (by simpa using l7);have o9 : FX fs ([].map aH4) mo none := by rw [f9] at hF; exact hF
   have f8 : aA9 (aA1 1) fs = none := by
    refine bH3 fun q hq e => ?_
    rcases o9.only q hq with h2 | h2 | ⟨x, hx, _⟩
    ·exact aM8 1 (e.symm.trans h2)
    ·exact aJ9 1 (e.symm.trans h2)
    cases hx
   have b8 := aN5 l (⟨1, ix, 0, [], [((aE4 ix 0).length : Int)]⟩ : aB1);refine aZ3 h hp (S := fun _ => False) (ob := []) (K := []) hF hM (Out.nil (fs := fs)) o9 (.inl rfl) (by rw [f8]; rfl) (fun r hr => by cases hr) (by show (1 : Int) <= 1; omega) (by omega) hA.1 (by rw [hA.2, hh.2]; rfl) (fun h9 => aE9.snoc aE9.nil ⟨hA.1, by rw [b8.1]; exact Int.le_refl _, h9⟩ (fun y hy => by cases hy)) aE9.nil (fun y hy => by cases hy) (fun x hx => hx.elim) (fun m W _ hW _ _ h9 => ?_);have g6 : j.ents = [] := by rw [aV1, f9]; rfl
   have p8 : ((0 : Nat) : Int) = ix - 1 - j.base.1 := by rw [a8, j9]; rfl
   cases W with
   | zero => exact ⟨⟨rfl, rfl⟩, by rw [a8]; rfl, .inr ⟨0, 0, p8, by omega, by omega, by rw [g6]; rfl⟩⟩
   | succ wn =>
    rw [if_neg (by omega), List.nil_append];have x8 : aE0 [] [bS5 (aA6 ⟨1, ix, 0, [], [((aE4 ix 0).length : Int)]⟩ l) (aA6 ⟨1, ix, 0, [], [((aE4 ix 0).length : Int)]⟩ l).k (wn + 1)] = [bS5 (aA6 ⟨1, ix, 0, [], [((aE4 ix 0).length : Int)]⟩ l) (aA6 ⟨1, ix, 0, [], [((aE4 ix 0).length : Int)]⟩ l).k (wn + 1)] := rfl;rw [x8];have g9 := (aK5 l (⟨1, ix, 0, [], [((aE4 ix 0).length : Int)]⟩ : aB1)).1;have o7 : wn <= l.length := by
     rw [bU4, lT, lU] at hW;have : (aM1 (⟨1, ix, 0, [], [((aE4 ix 0).length : Int)]⟩ : aB1)).length = 1 := rfl;omega
    refine ⟨⟨rfl, rfl⟩, ?_, .inr ⟨0, wn, p8, by omega, o7, ?_⟩⟩
    ·rw [a8]
     show ((aA6 ⟨1, ix, 0, [], [((aE4 ix 0).length : Int)]⟩ l).first - 1, (aA6 ⟨1, ix, 0, [], [((aE4 ix 0).length : Int)]⟩ l).term) = (0, 0)
     rw [b8.2.1, b8.2.2, j9]
     rfl
    rw [g6];show [(aA6 ⟨1, ix, 0, [], [((aE4 ix 0).length : Int)]⟩ l).l.take wn].flatten = _
    rw [g9];simp
  -- segments that stay, and the last of them cut
  rw [mA] at h0;have a7 : j.segs = (kr ++ [s]) ++ j.segs.drop N := by rw [<- h0, List.take_append_drop]
  have m8 : 1 <= j.segs.length := by rw [a7]; simp; omega
  have m7 := aY9 j.segs ix j.segs.length m8 (lR _);rw [<- hN] at m7;have r9 : N = kr.length + 1 := by
   have h1 := congrArg List.length h0;rw [lV, lT, List.length_singleton] at h1;omega
  have i6 := h.ch;rw [a7] at i6;have d8 := i6.left;have p9 := d8.seg s (by simp);have x6 : j.segs[N - 1]? = some s := by
   rw [a7, r9, Nat.add_sub_cancel, List.getElem?_append_left (by simp), List.getElem?_append_right (lR _)];simp
  obtain ⟨b, hb⟩ : ∃ b, (kr ++ [s]).head? = some b := by
   cases hx : (kr ++ [s]).head? with
   | none => rw [List.head?_eq_none_iff] at hx; simp at hx
   | some b => exact ⟨b, rfl⟩
  have s9 : j.segs.head? = some b := by rw [a7, List.head?_append, hb]; rfl
  have a8 := bS2 s9;have t7 := bW5 d8 hb;have i2 : s.first <= ix := by
   by_cases h1 : 1 < N
   ·have := m7.2.1 s h1 x6; omega
   have x7 : kr = [] := mD (by omega);have h2 := hL.base;rw [a8] at h2;rw [x7] at hb;simp at hb
   rw [<- hb] at h2;simp only at h2;omega
  have f7 : ix - 1 <= s.last.1 := by
   rcases Nat.lt_or_ge N j.segs.length with h1 | h1
   ·have x4 : j.segs[N]? = some j.segs[N] := lW h1
    have h2 := m7.2.2 _ h1 x4;have h3 : aE9 ((kr ++ [s]) ++ [j.segs[N]]) := by
     have h4 : j.segs.drop N = j.segs[N] :: j.segs.drop (N + 1) := List.drop_eq_getElem_cons h1;rw [h4] at i6;have h5 : (kr ++ [s]) ++ (j.segs[N] :: j.segs.drop (N + 1)) = ((kr ++ [s]) ++ [j.segs[N]]) ++ j.segs.drop (N + 1) := by simp
     rw [h5] at i6;exact i6.left
    have h6 := (aP1 _ _).1 (h3.last s (by simp)).2;omega
   have h2 : j.segs.drop N = [] := List.drop_of_length_le h1;have h3 := hL.last;have h4 : j.last = s.last := by
    unfold JnP.last;rw [a7, h2, List.append_nil];simp
   rw [h4] at h3;exact h3
  obtain ⟨a, z9, B1, m3, i4, m5⟩ := cQ8 p9.1 i2 f7;obtain ⟨c, hc⟩ : ∃ c, c = s.ahead ix := ⟨_, rfl⟩
  rw [<- hc] at m3 i4 m5;have a9 : c.k = s.k ∧ c.first = s.first ∧ c.term = s.term ∧ c.l = s.l.take a := by rw [m3]; exact ⟨rfl, rfl, rfl, rfl⟩
  have e9 : c.l.length = a := by rw [a9.2.2.2, lV]; omega
  have n7 : ∃ rr, aC8 s = aC8 c ++ rr := by
   refine ⟨cat ((aM1 s).drop (a + 1)), ?_⟩;rw [m3, cD4];exact bI8 _ _
  have B5 : ((aL4 kr).length : Int) + a = ix - 1 - j.base.1 := by
   have h1 : ((aL4 kr).length : Int) = s.first - b.first := t7;rw [a8];simp only;omega
  -- the acts ahead
  have q8 : FX fs ((kr ++ [s]).map aH4 ++ (j.segs.drop N).map aH4) mo none := by rw [<- mE, <- a7]; exact hF
  have i3 : aE9 (kr ++ [c]) := d8.setLast i4 a9.1 a9.2.1 a9.2.2.1;have m4 : ∃ b', (kr ++ [c]).head? = some b' ∧ b'.first = b.first ∧ b'.term = b.term := by
   cases kr with
   | nil =>
    simp at hb
    exact ⟨c, rfl, by rw [a9.2.1, hb], by rw [a9.2.2.1, hb]⟩
   | cons x xs => exact ⟨b, by simpa using hb, rfl, rfl⟩
  have t8 : aL4 (kr ++ [c]) = (aL4 (kr ++ [s])).take ((aL4 kr).length + a) := by
   rw [aE8, aE8, List.take_length_add_append]
   congr 1
   show [c.l].flatten = ([s.l].flatten).take a
   rw [a9.2.2.2];simp
  have p5 : j.ents = aL4 (kr ++ [s]) ++ aL4 (j.segs.drop N) := by rw [aV1, <- aE8, <- a7]
  have q5 : (aL4 (kr ++ [s])).length = (aL4 kr).length + s.l.length := by
   rw [aE8, lT]
   congr 1
   show [s.l].flatten.length = _
   simp
  have z7 : j.ents.take ((aL4 kr).length + a) = aL4 (kr ++ [c]) := by
   rw [t8, p5, List.take_append_of_le_length (by omega)]
  have n8 : (aL4 kr).length + a <= j.ents.length := by rw [p5, lT]; omega
  -- an outcome with the cut last segment, and some first new ones behind
  have l9 : ∀ (A : List aB1) (m : Nat), aL4 A = aL4 (kr ++ [c]) ++ l.take m -> m <= l.length -> (∃ b', A.head? = some b' ∧ b'.first = b.first ∧ b'.term = b.term) -> aZ5 j l ix ⟨j.term, j.vote, A, 0⟩ := fun A m hA m9 ⟨b', hb', hbf, hbt⟩ => by
   refine ⟨⟨rfl, rfl⟩, by rw [cC9 hb', a8, hbf, hbt], .inr ⟨(aL4 kr).length + a, m, by omega, n8, m9, ?_⟩⟩;rw [z7];exact hA
  have p0 : ∀ x, (∃ A, aE9 A ∧ FX x (A.map aH4) mo none ∧ aZ5 j l ix ⟨j.term, j.vote, A, 0⟩) -> ∀ (l8 : PWD) (keep : List Int), ∃ k d', aL5 (DkD.boot ⟨l8, room, x⟩ keep) = (0, some k, d') ∧ aZ5 j l ix k := fun x ⟨A, g8, hA2, hA3⟩ l8 keep => by
   obtain ⟨d', hd⟩ := aW2 (pw := l8) (room := room) hA2 g8 q9 (fun f hf => by cases hf) keep;exact ⟨_, d', hd, hA3⟩
  obtain ⟨z8, o1, f1, z1⟩ := bL9 (room := room) (S := fun x => ∃ A, aE9 A ∧ FX x (A.map aH4) mo none ∧ aZ5 j l ix ⟨j.term, j.vote, A, 0⟩) _ (j.segs.drop N) rfl q8 (fun m hm x hx => by
   rw [<- mE] at hx;have p7 : j.segs = ((kr ++ [s]) ++ (j.segs.drop N).take m) ++ (j.segs.drop N).drop m := by
    rw [List.append_assoc, List.take_append_drop];exact a7
   refine ⟨_, ?_, hx, bM6 p7 (b := b) (by rw [List.head?_append, hb]; rfl) ?_⟩
   ·have := h.ch
    rw [p7] at this;exact this.left
   rw [aE8, lT, q5];omega)
  rw [mE, List.map_singleton] at f1;obtain ⟨m2, o2, f2, z2⟩ := dD8 (room := room) (S := fun x => ∃ A, aE9 A ∧ FX x (A.map aH4) mo none ∧ aZ5 j l ix ⟨j.term, j.vote, A, 0⟩) f1 p9.1 i4 a9.1 n7 (fun x hx => ⟨kr ++ [s], d8, by rw [mE]; exact hx, bM6 a7 hb (by rw [q5]; omega)⟩) (fun x hx => ⟨kr ++ [c], i3, by rw [mE]; exact hx, l9 _ 0 (by simp) (by omega) m4⟩);have o8 := o1.append o2;have m6 : aH8 j N + aO4 s c = ((j.segs.drop N).map fun s => ((aC8 s).length : Int)).sum + aO4 s c := by
   rw [bC4]
   congr 2
   refine List.map_congr_left fun x hx => ?_
   exact (h.ch.seg x (List.mem_of_mem_drop hx)).1.long
  have q6 : aB7 m2 + (aH8 j N + aO4 s c) <= aB7 fs := by omega
  have j6 : aO5 j N = (j.segs.drop N).reverse := rfl;rw [<- j6] at o8;have p6 : ∀ r ∈ kr.map aH4, r.1 < s.k := fun r hr => (List.pairwise_append.1 f1.ks).2.2 r hr (aH4 s) (by simp)
  by_cases hnew : 600 <= c.long
  rotate_left
  ·rw [bM8 hN h0 hc hnew]
   have hA := aQ0 l i4 hL.ents (fun i hi => by rw [hL.ixs i hi, e9, a9.2.1]; omega) (by rw [e9, a9.2.1]; omega);have b8 := aN5 l c;have x5 : aA9 (aA1 c.k) m2 = some (fdS (aC8 c)) := f2.has (aH4 c) (by simp);refine aZ3 h hp (ob := aC8 c) (K := kr) (R2 := kr.map aH4 ++ [aH4 c]) hF hM o8 f2 (.inr rfl) (by rw [x5]; rfl) (fun r hr => by rw [a9.1]; exact p6 r hr) (by rw [a9.1]; omega) q6 hA.1 (by rw [hA.2]; rfl) (fun h9 => d8.setLast hA.1 (by rw [b8.1, a9.1]) (by rw [b8.2.1, a9.2.1]) (by rw [b8.2.2, a9.2.2.1])) d8.left (fun y hy => by rw [a9.1]; exact (d8.last y hy).1) p0 (fun m W hom hW w1 w2 h9 => ?_);have n6 : aM1 (aA6 c l) = aM1 c ++ l.map enP := bU4 l;have y9 : (aM1 c).length = a + 1 := by unfold aM1; simp [e9]
   obtain ⟨mm, y8⟩ : ∃ mm, W = a + 1 + mm := by
    refine ⟨W - (a + 1), ?_⟩;rcases w2 with w2 | w2
    ·rw [n6, lT] at w2
     omega
    rcases Nat.lt_or_ge W (a + 1) with h1 | h1
    ·exfalso
     have h2 := dA4 (aM1 (aA6 c l)) (i := W + 1) (j := a + 1) (by omega);have h3 : (aM1 (aA6 c l)).take (a + 1) = aM1 c := by rw [n6, <- y9, List.take_left]
     rw [h3] at h2;have h4 : (cat (aM1 c)).length = (aC8 c).length := rfl;omega
    omega
   have m9 : mm <= l.length := by
    rw [n6, lT, lU] at hW;omega
   obtain ⟨s1, n9⟩ : ∃ x, x = aA6 c l := ⟨_, rfl⟩
   have g9 := (aK5 l c).1;have g8 := hA.1;rw [<- n9] at g8 b8 g9 ⊢;rw [if_neg (by omega), y8, show a + 1 + mm = (a + mm) + 1 by omega];have i1 : aE9 (kr ++ [bS5 s1 s1.k (a + mm + 1)]) := d8.setLast (bI9 g8 _ _) (by show s1.k = _; rw [b8.1, a9.1]) (by show s1.first = _; rw [b8.2.1, a9.2.1]) (by show s1.term = _; rw [b8.2.2, a9.2.2.1]);rw [aJ3 i1.go];refine l9 _ mm ?_ m9 ?_
   ·rw [aE8, aE8, List.append_assoc]
    congr 1
    show [s1.l.take (a + mm)].flatten = [c.l].flatten ++ _
    rw [g9, <- e9, List.flatten_singleton, List.flatten_singleton, List.take_length_add_append]
   cases kr with
   | nil =>
    simp at hb
    exact ⟨bS5 s1 s1.k (a + mm + 1), rfl, by show s1.first = _; rw [b8.2.1, a9.2.1, hb], by show s1.term = _; rw [b8.2.2, a9.2.2.1, hb]⟩
   | cons x xs => exact ⟨b, by simpa using hb, rfl, rfl⟩
  rw [bM7 hN h0 hc hnew];have y7 := i4.last2;have hh := bY0 (k := s.k + 1) (ix := ix) (t := c.last.2) (by omega) l4 y7;have hA := aQ0 l hh.1 hL.ents (fun i hi => by rw [hL.ixs i hi]; simp) (by simpa using l7);have l5 : ∀ r ∈ (kr ++ [c]).map aH4, r.1 < s.k + 1 := fun r hr => by
   rw [mE] at hr;rcases List.mem_append.1 hr with h1 | h1
   ·have := p6 r h1; omega
   rw [List.mem_singleton.1 h1];show c.k < s.k + 1
   omega
  have f8 : aA9 (aA1 (s.k + 1)) m2 = none := by
   refine bH3 fun q hq e => ?_
   rcases f2.only q hq with h2 | h2 | ⟨x, hx, h2⟩
   ·exact aM8 _ (e.symm.trans h2)
   ·exact aJ9 _ (e.symm.trans h2)
   have h3 := l5 x (by rw [mE]; exact hx);have h4 := f2.num x hx;exact bH6 (a := s.k + 1) (b := x.1) (by omega) (by omega) (by omega) (e.symm.trans h2)
  have b8 := aN5 l (⟨s.k + 1, ix, c.last.2, [], [((aE4 ix c.last.2).length : Int)]⟩ : aB1);have p4 : ∀ y : aB1, y.first = ix -> y.term = c.last.2 -> y.goesOn c = true := fun y h1 h2 => (aP1 _ _).2 ⟨by omega, h2⟩
  refine aZ3 h hp (ob := []) (K := kr ++ [c]) (R2 := kr.map aH4 ++ [aH4 c]) hF hM o8 f2 (.inl (by rw [mE]; rfl)) (by rw [f8]; rfl) l5 (by show 1 <= s.k + 1; omega) q6 hA.1 (by rw [hA.2, hh.2]; rfl) (fun h9 => i3.snoc ⟨hA.1, by rw [b8.1]; show 1 <= s.k + 1; omega, h9⟩ (fun y hy => by
   have : c = y := by simpa using hy
   subst this;exact ⟨by rw [b8.1, a9.1], p4 _ b8.2.1 b8.2.2⟩)) i3 (fun y hy => by
   have : c = y := by simpa using hy
   subst this;show s.k + 1 = c.k + 1
   rw [a9.1]) p0 (fun m W _ hW _ _ h9 => ?_)
  cases W with
  | zero =>
   rw [if_pos rfl, aJ3 i3.go];exact l9 _ 0 (by simp) (by omega) m4
  | succ wn =>
   rw [if_neg (by omega)];obtain ⟨s1, n9⟩ : ∃ x, x = aA6 (⟨s.k + 1, ix, c.last.2, [], [((aE4 ix c.last.2).length : Int)]⟩ : aB1) l := ⟨_, rfl⟩
   have g9 := (aK5 l (⟨s.k + 1, ix, c.last.2, [], [((aE4 ix c.last.2).length : Int)]⟩ : aB1)).1;have o7 : wn <= l.length := by
    rw [bU4, lT, lU] at hW;have : (aM1 (⟨s.k + 1, ix, c.last.2, [], [((aE4 ix c.last.2).length : Int)]⟩ : aB1)).length = 1 := rfl;omega
   have g8 := hA.1;rw [<- n9] at g8 b8 g9 h9 ⊢;have i1 : aE9 ((kr ++ [c]) ++ [bS5 s1 s1.k (wn + 1)]) := i3.snoc ⟨bI9 g8 _ _, by show 1 <= s1.k; rw [b8.1]; show 1 <= s.k + 1; omega, h9⟩ (fun y hy => by
    have : c = y := by simpa using hy
    subst this;exact ⟨by show s1.k = _; rw [b8.1, a9.1], p4 _ b8.2.1 b8.2.2⟩)
   rw [aJ3 i1.go];refine l9 _ wn ?_ o7 ?_
   ·rw [aE8]
    congr 1
    show [s1.l.take wn].flatten = _
    rw [g9];simp
   obtain ⟨b', h1, h2⟩ := m4;exact ⟨b', by rw [List.head?_append, h1]; rfl, h2⟩
end
end
end Go.Proofs.YtgeofijddhflaaaGreatDoor
