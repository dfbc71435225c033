/- A disk's Append. Condition: the disk is a call's own; name and parts can be read, within the form's reach. -/
import Derived.Test.YtgeofijddhflaaaGreatDoorQDiskApp1
import Derived.Deep.DeepCutAuto
import Derived.Deep.Cut
set_option linter.unusedVariables false
namespace Go.Proofs.YtgeofijddhflaaaGreatDoor
open Go.RowKit Go.Maps Go.Sort Oct
theorem fits_step {left : Int} {ps : List Row} {k : Nat} (hk : k < ps.length) : fits left ((ps.drop k).map Row.l) = (decide ((ps[k].l.length : Int) ≤ left) && fits (left - ps[k].l.length) ((ps.drop (k + 1)).map Row.l)) := by
 rw [← List.getElem_cons_drop hk, List.map_cons, fits]
theorem cut_part (p : PWD) (h : -9223372036854775808 ≤ p.part ∧ p.part ≤ 9223372036854775807) : -9223372036854775808 ≤ p.cut.2.1 ∧ p.cut.2.1 ≤ 9223372036854775807 := by
 unfold PWD.cut
 split
 ·exact ⟨by show (-9223372036854775808 : Int) ≤ 0; decide, by show (0 : Int) ≤ _; decide⟩
 ·split
  ·exact ⟨by show (-9223372036854775808 : Int) ≤ 0; decide, by show (0 : Int) ≤ _; decide⟩
  ·exact h
section
variable {w w1 w2 w' : World} {base g m : Nat} {p p' : PWD} {room : Int} {es : List (Nm × FE)}
structure AppAt (w w3 : World) (base g m : Nat) (p' : PWD) (room : Int) (es : List (Nm × FE)) (n : Nm) (es1 : List (Nm × FE)) (fe : FE) : Prop where
 at_ : DiskAt w3 base g m p' room es1
 fr : Fr (DFoot g m es) w w3
 foot : ∀ k, DFoot g m es1 k → DFoot g m es k ∨ w.heap.size ≤ k
 got : asGet n es1 = some fe
 f : fe.f = (asGet n (sec FE.f es)).getD ⟨[], 0⟩
 fs : ∀ f', asPut n f' (sec FE.f es1) = asPut n f' (sec FE.f es)
theorem DiskTo.step2 {es' : List (Nm × FE)} {d : DkD} (hf : Fr (DFoot g m es) w w1) (hfoot : ∀ k, DFoot g m es' k → DFoot g m es k ∨ w.heap.size ≤ k) (h : DiskTo w1 base g m es' d w2) : DiskTo w base g m es d w2 := by
 obtain ⟨es2, h1, h2, h3, h4⟩ := h
 refine ⟨es2, h1, h2, hf.trans h3 hfoot, fun k hk => ?_⟩
 rcases h4 k hk with h5 | h5
 ·exact hfoot k h5
 ·exact .inr (Nat.le_trans hf.size h5)
theorem upTo_len (part : Int) (l : List UInt8) : (upTo part l).length ≤ l.length := by
 unfold upTo
 rw [List.length_take]
 omega
theorem getD_len {n : Nm} (h : ∀ q ∈ es, q.2.f.b.length ≤ 549755813888) : ((asGet n (sec FE.f es)).getD ⟨[], 0⟩).b.length ≤ 549755813888 := by
 cases hg : asGet n es with
 | none => rw [asGet_f hg]; exact Nat.zero_le _
 | some fe => rw [asGet_fs hg]; exact h _ (asGet_some hg)
theorem asDel_ins (n : Nm) {α : Type} (b : α) (l : List (Nm × α)) : asDel n (asIns (n, b) l) = asDel n l := by
 induction l with
 | nil => simp [asIns, asDel]
 | cons y r ih =>
  unfold asIns
  split
  ·simp [asDel]
  ·unfold asDel at ih ⊢
   rw [List.filter_cons, List.filter_cons, ih]
theorem asDel_del (n : Nm) {α : Type} (l : List (Nm × α)) : asDel n (asDel n l) = asDel n l := by
 unfold asDel
 rw [List.filter_filter]
 congr 1
 funext p
 simp
theorem asPut_put (n : Nm) {α : Type} (a b : α) (l : List (Nm × α)) : asPut n a (asPut n b l) = asPut n a l := by
 unfold asPut
 rw [asDel_ins, asDel_del]
theorem asGet_put (n : Nm) {α : Type} (a : α) (l : List (Nm × α)) : asGet n (asPut n a l) = some a := by
 unfold asPut asGet
 have key : ∀ r : List (Nm × α), (∀ p ∈ r, (p.1 == n) = false) → (asIns (n, a) r).find? (fun p => p.1 == n) = some (n, a) := by
  intro r
  induction r with
  | nil => intro _; simp [asIns]
  | cons y r ih =>
   intro hr
   unfold asIns
   split
   ·rw [List.find?_cons_of_pos (by simp)]
   ·rw [List.find?_cons_of_neg (by rw [hr y (List.mem_cons_self ..)]; simp)]
    exact ih fun p hp => hr p (List.mem_cons_of_mem _ hp)
 rw [key _ (fun p hp => by have := (asDel_mem.1 hp).2; simpa using this)]
 rfl
theorem app_new {w3 wB w4 : World} (h : DiskAt w3 base g m p' room es) (hf : Fr (DFoot g m es) w w3) (hb : Below w3.heap.size w3 wB) (hK : Blk wB w3.heap.size 83 #[.slice none 0 0, .int .i64 0]) {n : Nm} (hn : asGet n es = none) (hm : MapAt Tryz.prog 9 w4 m (asPut n w3.heap.size (sec FE.blk es))) (hg : wB.grownBy w4 (some m)) :
  AppAt w w4 base g m p' room es n (asPut n ⟨w3.heap.size, .slice none 0 0, ⟨[], 0⟩⟩ es) ⟨w3.heap.size, .slice none 0 0, ⟨[], 0⟩⟩ := by
 have hB := h.below hb
 have hml := h.map.lt
 have hK4 : Blk w4 w3.heap.size 83 #[.slice none 0 0, .int .i64 0] := hK.grown hg (fun e => by injection e with e; omega)
 refine ⟨hB.file_new ⟨w3.heap.size, .slice none 0 0, ⟨[], 0⟩⟩ (fun q hq _ => ⟨fun e => ?_, fun k _ e => by cases e⟩) hg.size hK4 ⟨⟨none, 0, rfl, Nat.le_refl _, by decide, Rd.none_⟩, .inl rfl⟩ (Nat.le_refl _) ?_ hm (fun k hk hn => hg.block k hk (fun e => hn (by injection e))), ?_, fun k hk => ?_, asGet_put _ _ _, ?_, fun f' => by rw [asPut_sec, asPut_put]⟩
 ·have h1 := (h.file q hq).lt
  have e' : q.2.blk = w3.heap.size := e
  omega
 ·have h1 := h.low.1
  have h2 := h.blk.lt
  show base ≤ w3.heap.size
  omega
 ·refine hf.trans (mine' := DFoot g m es) ⟨hg.os.trans hb.os, hg.tape.trans hb.tape, hg.output.trans hb.output, Nat.le_trans hb.size hg.size, fun k hk hnn => ?_⟩ (fun j hj => .inl hj)
  exact (hg.block k (Nat.lt_of_lt_of_le hk hb.size) (fun e => hnn (by injection e with e; exact .inr (.inl e)))).trans (hb.block k hk)
 ·refine foot_put hk (fun e => .inr ?_) (fun e => by cases e)
  have e' : w3.heap.size = k := e
  have := hf.size
  omega
 ·rw [asGet_f hn]; rfl
theorem app_rd {P : Program} {t : TypeId} {w3 wB w4 : World} {A : Option Addr} {xs : List Value} {l : List (Nm × Nat)} (h : Rd w3 w3.heap.size A xs) (hb : Below w3.heap.size w3 wB) (hg : wB.grownBy w4 (some m)) (hm : MapAt P t w3 m l) : Rd w4 w4.heap.size A xs := by
 intro hn
 obtain ⟨ad, e1, e2, e3⟩ := h hn
 refine ⟨ad, e1, by have := hb.size; have := hg.size; omega, fun j u hj => ?_⟩
 have h1 := e3 j u hj
 have hne : ad.block ≠ m := fun e => by
  obtain ⟨es', clock, h2, _⟩ := hm
  unfold World.cell? at h1
  rw [block_of_add, e, h2] at h1
  split at h1 <;> simp_all
 exact (World.cell?_of_block (w := wB) (by rw [block_of_add]; exact hg.block ad.block (by have := hb.size; omega) (fun e => by injection e with e; exact hne e))).trans ((hb.cell (by rw [block_of_add]; exact e2)).trans h1)
set_option maxHeartbeats 8000000 in
set_option maxRecDepth 100000 in
theorem dappend_any (h : DiskAt w base g m p room es) (s : ByteArray) (hs : s.size ≤ 140737488351232) (A : Option Addr) (ps : List Row) (c : Nat) (hrd : Rd w w.heap.size A (ps.map Row.val)) (hp : RRd w w.heap.size ps) (hpc : ps.length ≤ c) (hpl : ps.length ≤ 1000000000) (hfl : (flat ps).length ≤ 274877906944)
  (hfe : ∀ q ∈ es, q.2.f.b.length ≤ 549755813888) (hsz : sizes (sec FE.f es) ≤ 4611686018427387904) (hl : es.length < 4398046511104) :
  Calls Tryz.prog 10 #[.pointer (some ⟨g, 0, none⟩), .string s, .slice A ps.length c] w fun e w' => e = .returned (.int .i64 ((dkOf p room es).append s.data.toList (ps.map Row.l)).1) ∧ DiskTo w base g m es ((dkOf p room es).append s.data.toList (ps.map Row.l)).2 w' := by
 have H := Lib.hid h
 obtain ⟨⟨c0, c1, c2, c3, c4, c5⟩, f0, f1, f2, f3⟩ := blk6_at h.blk
 obtain ⟨hna, hnp, hr0, hr1⟩ := h.num
 have HNM := Lib.hid (dname_any s w hs)
 have hs0 := sizes_nonneg (sec FE.f es)
 obtain ⟨R, hR⟩ : ∃ R, R = (dkOf p room es).append s.data.toList (ps.map Row.l) := ⟨_, rfl⟩
 rw [← hR]
 cases ho : p.off with
 | true =>
  have e : R = (50, dkOf p room es) := by rw [hR]; unfold DkD.append; rw [if_pos ho]
  have HE := Lib.hid e
  rw [ho] at c0
  clear h hR e ho hrd hp hfe
  go_enter Tryz.func10, Tryz.ntmps10
  go_wp2_with fail
  go_ret
  exact ⟨by rw [HE.out]; rfl, by rw [HE.out]; exact DiskTo.mk' H.out (Fr.refl _ _)⟩
 | false =>
  have ho1 : ¬ p.off = true := by rw [ho]; simp
  rw [ho] at c0
  cases hnb : nameB s.data.toList with
  | false =>
   have e : R = (1, dkOf p room es) := by
    rw [hR]; unfold DkD.append; rw [if_neg ho1, if_pos (nameB_false hnb)]
   have HE := Lib.hid e
   rw [hnb] at HNM
   clear h hR e ho ho1 hnb hrd hp hfe
   go_enter Tryz.func10, Tryz.ntmps10
   go_wp2_with fail
   refine HNM.out.mono ?_
   rintro e w' ⟨rfl, rfl⟩
   go_wp2_with fail
   go_ret
   exact ⟨by rw [HE.out]; rfl, by rw [HE.out]; exact DiskTo.mk' H.out (Fr.refl _ _)⟩
  | true =>
   obtain ⟨n1, n2⟩ := nameB_true hnb
   have hn12 : ¬ (s.data.toList = [] ∨ 32 < s.data.toList.length) := fun e => e.elim n1 n2
   have H52 : Hid (fits (room - sizes (sec FE.f es)) (ps.map Row.l) = false → R = (52, dkOf p room es)) := Lib.hid fun hf => by
    rw [hR]; unfold DkD.append; rw [if_neg ho1, if_neg hn12, if_pos (show fits (dkOf p room es).free _ = false from hf)]
   have HOK : Hid (fits (room - sizes (sec FE.f es)) (ps.map Row.l) = true → R = (if p.cut.1 = true then 50 else 0, ⟨p.cut.2.2, room, asPut s.data.toList ⟨((asGet s.data.toList (sec FE.f es)).getD ⟨[], 0⟩).b ++ (if p.cut.1 = true then upTo p.cut.2.1 (flat ps) else flat ps), ((asGet s.data.toList (sec FE.f es)).getD ⟨[], 0⟩).safe⟩ (sec FE.f es)⟩)) := Lib.hid fun hf => by
    rw [hR]; unfold DkD.append; rw [if_neg ho1, if_neg hn12, if_neg (by rw [show (dkOf p room es).free = room - sizes (sec FE.f es) from rfl, hf]; simp)]
    rfl
   rw [hnb] at HNM
   have HFR := Lib.hid (free_any h hsz)
   have HRD := Lib.hid (And.intro hrd (And.intro hp hfe))
   clear h hR ho ho1 hnb hrd hp hfe n1 n2 hn12
   go_enter Tryz.func10, Tryz.ntmps10
   go_wp2_with fail
   refine HNM.out.mono ?_
   rintro e w' ⟨rfl, rfl⟩
   go_wp2_with fail
   refine HFR.out.mono ?_
   rintro e w1 ⟨rfl, hb1⟩
   have HB1 := Lib.hid hb1
   have hs1 := hb1.size
   clear c0 c1 c2 c3 c4 c5 f0 f1 f2 f3 hb1 HNM HFR
   go_wp2_with fail
   go_loop [27, 7, 9] (fun i left pv => ∃ (k : Nat) (lf : Int), i = .int .i64 k ∧ k ≤ ps.length ∧ left = .int .i64 lf ∧ -4611686018427387904 ≤ lf ∧ lf ≤ 9223372036854775807 ∧ Hid (fits (room - sizes (sec FE.f es)) (ps.map Row.l) = fits lf ((ps.drop k).map Row.l))) (fun i _ _ => ps.length - (intOf i).toNat)
   case atStart => exact ⟨0, room - sizes (sec FE.f es), rfl, Nat.zero_le _, rfl, by omega, by omega, Lib.hid rfl⟩
   case round =>
    obtain ⟨k, lf, rfl, hk, rfl, hlf0, hlf1, HFT⟩ := hrel
    by_cases hlt : k < ps.length
    ·have hltI : (k : Int) < ps.length := by omega
     obtain ⟨ad, rfl, had, hcell⟩ := rd_at (HRD.out.1.below HB1.out) hlt
     have HST := Lib.hid (fits_step (left := lf) hlt)
     have hpl2 : ps[k].l.length ≤ 4611686018427387904 := (HRD.out.2.1 _ (List.getElem_mem hlt)).2
     generalize ps[k] = q at hcell HST hpl2
     obtain ⟨qa, ql, qc⟩ := q
     simp only [Row.val] at hcell HST hpl2
     by_cases hle : (ql.length : Int) ≤ lf
     ·have HN := Lib.hid (show fits (room - sizes (sec FE.f es)) (ps.map Row.l) = fits (lf - ql.length) ((ps.drop (k + 1)).map Row.l) by rw [HFT.out, HST.out, decide_eq_true hle, Bool.true_and])
      clear HST HFT
      go_wp2
      go_round
      case rel => exact ⟨k + 1, lf - ql.length, by go_num, by omega, rfl, by omega, by omega, HN⟩
      case measure => simp [intOf]; omega
     ·have HN := Lib.hid (H52.out (by rw [HFT.out, HST.out, decide_eq_false hle, Bool.false_and]))
      have hgt : lf < (ql.length : Int) := by omega
      clear HST HFT hle
      go_wp2
      go_ret
      exact ⟨by rw [HN.out]; rfl, by rw [HN.out]; exact DiskTo.mk' (H.out.below HB1.out) (Fr.of_below _ HB1.out)⟩
    ·have hkl : k = ps.length := by omega
     have HR := Lib.hid (HOK.out (by rw [HFT.out, hkl, List.drop_length]; rfl))
     have hltI : ¬ (k : Int) < ps.length := by omega
     clear HFT H52 HOK hkl
     have HJ := Lib.hid (join_any A ps ps.length c rfl w1 ((HRD.out.1.below HB1.out).more hs1) (fun q hq => ⟨((HRD.out.2.1 q hq).1.below HB1.out).more hs1, (HRD.out.2.1 q hq).2⟩) (by omega) (by omega) hpc)
     go_wp2_with fail
     refine HJ.out.mono ?_
     rintro e w2 ⟨v, rfl, hg2, hb2⟩
     obtain ⟨Ap, cp, rfl, hcp, hcp2, hrp⟩ := hg2.shape
     have HB2 := Lib.hid (HB1.out.trans (hb2.mono hs1))
     have hs2 := hb2.size
     have HC := Lib.hid (dcut_any (H.out.below HB2.out))
     have HGP := Lib.hid hg2
     clear hg2 hb2 HJ hrp
     go_wp2_with fail
     refine HC.out.mono ?_
     rintro e w3 ⟨rfl, hD3, hF3, hs3⟩
     have HF3 := Lib.hid ((Fr.of_below (DFoot g m es) HB2.out).trans hF3 (fun j hj => .inl hj))
     have hg3 : Got w3 w1.heap.size (.slice Ap (flat ps).length cp) (flat ps) := HGP.out.kept (fun q hq => hF3.block q (HGP.out.row.lt q hq) (fun hf => by
      have h5 := (H.out.lt q hf).2
      have h6 := HGP.out.row.base q hq
      omega)) (by omega)
     have HRP3 : Hid (Rd w3 w3.heap.size Ap (cells (flat ps))) := Lib.hid (by
      obtain ⟨A', c', e1, _, _, e2⟩ := hg3.shape
      injection e1 with e1 _ _
      subst e1
      exact e2)
     clear HGP hg3
     have HPT := Lib.hid (cut_part p hnp)
     generalize p.cut = c at HR hD3 HPT ⊢
     obtain ⟨gone, part, p'⟩ := c
     simp only at hD3 HPT ⊢
     have HD3 := Lib.hid hD3
     obtain ⟨Q, hQ⟩ : ∃ Q, Q = if gone = true then upTo part (flat ps) else flat ps := ⟨_, rfl⟩
     have HR' : Hid (R = (if gone = true then 50 else 0, ⟨p', room, asPut s.data.toList ⟨((asGet s.data.toList (sec FE.f es)).getD ⟨[], 0⟩).b ++ Q, ((asGet s.data.toList (sec FE.f es)).getD ⟨[], 0⟩).safe⟩ (sec FE.f es)⟩)) := Lib.hid (by rw [hQ]; exact HR.out)
     have HQ := Lib.hid hQ
     have hs3' : w2.heap.size ≤ w3.heap.size := by omega
     clear hD3 hF3 HC HR hQ hs3
     go_upto_if 49 with fail
     go_cut [10] (fun v wx => ∃ Aq cq, v = .slice Aq Q.length cq ∧ Hid (Rd w3 w3.heap.size Aq (cells Q)) ∧ wx = w3)
     case first =>
      cases gone with
      | false =>
       obtain rfl : Q = flat ps := by rw [HQ.out]; simp
       clear HQ HR'
       go_wp2_with fail
       go_meet
       exact ⟨Ap, cp, rfl, HRP3, rfl⟩
      | true =>
       have e : Q = upTo part (flat ps) := by rw [HQ.out]; simp
       have hmod := Lib.hid (dmod_any part ((flat ps).length + 1) HPT.out ⟨by omega, by omega⟩ w3)
       obtain ⟨K, hK⟩ : ∃ K : Nat, part % ((flat ps).length + 1 : Int) = K := ⟨(part % ((flat ps).length + 1 : Int)).toNat, by have := Int.emod_nonneg part (show ((flat ps).length + 1 : Int) ≠ 0 by omega); omega⟩
       have hKl : K ≤ (flat ps).length := by have := Int.emod_lt_of_pos part (show 0 < ((flat ps).length + 1 : Int) by omega); omega
       have e2 : Q = (flat ps).take K := by rw [e]; unfold upTo; rw [hK]; rfl
       have e3 : Q.length = K := by rw [e2, List.length_take]; omega
       rw [hK] at hmod
       have hcut := fun W : World => run_cut_to (P := Tryz.prog) Tryz.underlying34 info_u8 Ap (flat ps).length cp K (by omega) (K : Int) rfl W
       have HE := Lib.hid e3
       have HFIN : Hid (Rd w3 w3.heap.size Ap (cells Q)) := Lib.hid (by
        rw [e2]
        have := HRP3.out.take K
        rwa [show (cells (flat ps)).take K = cells ((flat ps).take K) by simp [cells, List.map_take]] at this)
       clear e e2 e3 hK HQ HR'
       go_wp2_with fail
       refine hmod.out.mono ?_
       rintro e w' ⟨rfl, rfl⟩
       clear hmod
       go_wp2_with fail
       go_meet
       exact ⟨Ap, cp, by rw [HE.out], HFIN, rfl⟩
     case rest =>
      obtain ⟨Aq, cq, rfl, HRQ, rfl⟩ := hcut
      obtain ⟨w3, hw3⟩ : ∃ u, u = wc := ⟨_, rfl⟩
      subst hw3
      have hlk := HD3.out.map.get Tryz.underlying9 Tryz.underlying59 (zero_ptr w3) s (by unfold maxLen; omega)
      rw [asGet_sec] at hlk
      have HLK := Lib.hid hlk
      obtain ⟨⟨c0, c1, c2, c3, c4, c5⟩, f0, f1, f2, f3⟩ := blk6_at HD3.out.blk
      clear hlk HRP3 HPT
      go_upto_region 17 with fail
      go_cut [63] (fun v wx => v = .bool (asGet s.data.toList es).isNone ∧ wx = w3)
      case first =>
       cases hgt : asGet s.data.toList es with
       | none =>
        have hl2 := HLK.out
        rw [hgt] at hl2
        have hl3 : (Instr.lookup 59 (.map (some m)) (.string s) false).run Tryz.prog w3 = .ok (.pointer none) w3 := hl2
        have HGT := Lib.hid hgt
        clear hl2 hgt
        go_wp2_with fail
        go_meet
        exact ⟨by rw [HGT.out]; rfl, rfl⟩
       | some fe =>
        have hl2 := HLK.out
        rw [hgt] at hl2
        have hl3 : (Instr.lookup 59 (.map (some m)) (.string s) false).run Tryz.prog w3 = .ok (.pointer (some ⟨fe.blk, 0, none⟩)) w3 := hl2
        have HGT := Lib.hid hgt
        clear hl2 hgt
        go_wp2_with fail
        go_meet
        exact ⟨by rw [HGT.out]; rfl, rfl⟩
      case rest =>
       obtain ⟨h63, hwc⟩ := hcut
       subst h63
       subst hwc
       go_upto_if 63 with fail
       go_cut [] (fun wx => ∃ es1 fe1, Hid (AppAt w wx base g m p' room es s.data.toList es1 fe1) ∧ Hid (Rd wx wx.heap.size Aq (cells Q)))
       case first =>
        cases hgt : asGet s.data.toList es with
        | some fe =>
         have HFIN : Hid (AppAt w wc base g m p' room es s.data.toList es fe) := Lib.hid ⟨HD3.out, HF3.out, fun k hk => .inl hk, hgt, by rw [asGet_fs hgt]; rfl, fun _ => rfl⟩
         have hbn : (some fe).isNone = false := rfl
         clear hgt
         go_wp2_with fail
         go_meet
         exact ⟨es, fe, HFIN, HRQ⟩
        | none =>
         have hbN : Below wc.heap.size wc (wc.alloc (.cells #[.slice none 0 0, .int .i64 0] 83)) := (Below.refl _ wc).alloc (Nat.le_refl _) _
         have HDN := Lib.hid (HD3.out.below hbN)
         have HKN := Lib.hid (Blk.new wc 83 #[.slice none 0 0, .int .i64 0])
         have HBN := Lib.hid hbN
         have hlm : (sec FE.blk es).length < maxLen := by rw [List.length_map]; unfold maxLen; omega
         have hsm : s.size ≤ maxLen := by unfold maxLen; omega
         have HGT := Lib.hid hgt
         clear hbN hgt
         go_wp2_with (at_mapUpdate; refine wpList_put_ptr rfl (.tmp 67) (.tmp 68) (.tmp 70) 59 rfl Tryz.underlying9 Tryz.underlying59 HDN.out.map hlm s hsm wc.heap.size rfl rfl rfl ?_; intro w4 hm4 hg4)
         have HFIN := Lib.hid (app_new HD3.out HF3.out HBN.out HKN.out HGT.out hm4 hg4)
         have HRQ4 := Lib.hid (app_rd HRQ.out HBN.out hg4 HD3.out.map)
         clear hm4 hg4
         go_frame
         go_meet
         exact ⟨_, _, HFIN, HRQ4⟩
       case rest =>
        obtain ⟨es1, fe1, HA, HRQ4⟩ := hcut
        have HLK1 : Hid (∀ W, MapAt Tryz.prog 9 W m (sec FE.blk es1) → (Instr.lookup 59 (.map (some m)) (.string s) false).run Tryz.prog W = .ok (.pointer (some ⟨fe1.blk, 0, none⟩)) W) := Lib.hid fun W hW => by
         have h1 := hW.get Tryz.underlying9 Tryz.underlying59 (zero_ptr W) s (by unfold maxLen; omega)
         rw [asGet_sec, HA.out.got] at h1
         exact h1
        have hmem := asGet_some HA.out.got
        have hK : Blk wc fe1.blk 83 #[fe1.v, .int .i64 fe1.f.safe] := HA.out.at_.file _ hmem
        have hgt : Got wc base fe1.v fe1.f.b := HA.out.at_.got _ hmem
        obtain ⟨A1, c1', hv1, _, _, _⟩ := hgt.shape
        have hv1' : fe1.v = .slice A1 fe1.f.b.length c1' := hv1
        have hfl1 : fe1.f.b.length ≤ 549755813888 := by rw [HA.out.f]; exact getD_len HRD.out.2.2
        have hQl : Q.length ≤ 274877906944 := by
         rw [HQ.out]
         split
         ·exact Nat.le_trans (upTo_len _ _) hfl
         ·exact hfl
        obtain ⟨⟨_, _, _, _, _, d5⟩, _, _, _, _⟩ := blk6_at HA.out.at_.blk
        have e0 : wc.cell? ⟨fe1.blk, 0, none⟩ = some fe1.v := hK.cell 0
        rw [hv1'] at e0
        have hbw : base ≤ wc.heap.size := by have := HA.out.at_.low.1; have := HA.out.at_.blk.lt; omega
        have HM1 := HA.out.at_.map
        have HGT := Lib.hid hgt
        have HKB := Lib.hid hK
        have HV1 := Lib.hid hv1'
        clear c0 c1 c2 c3 c4 c5 f0 f1 f2 f3 hgt hK hv1 hv1' hmem HLK HRQ
        go_wp2_with fail
        refine wp_region_heldT 19 (by kernel_rfl) (S := fun W => W.cell? ⟨g, 5, none⟩ = some (.map (some m)) ∧ MapAt Tryz.prog 9 W m (sec FE.blk es1) ∧ W.cell? ⟨fe1.blk, 0, none⟩ = some (.slice A1 fe1.f.b.length c1') ∧ True) ⟨d5, HM1, e0, trivial⟩ (fun hHeld => ?_)
        refine heldT_take 0 (v := ?_) (by simp) (by kernel_rfl) (by kernel_rfl) (by kernel_rfl) (by kernel_rfl) (fun _ _ _ h => h) (Or.inl ⟨by rfl, ?_⟩) hHeld ?_
        case refine_2 => (intro w hSw; (try dsimp only at hSw); (try (obtain ⟨s0, s1, s2, s3⟩ := hSw)); simp only [List.getElem_cons_zero]; go_simp <;> with_reducible rfl)
        simp only [List.getElem_cons_zero, Act.put, List.setIfInBounds_toArray, List.set_cons_zero, List.set_cons_succ]
        refine heldT_take 1 (v := ?_) (by simp) (by kernel_rfl) (by kernel_rfl) (by kernel_rfl) (by kernel_rfl) (fun _ _ _ h => h) (Or.inl ⟨by rfl, ?_⟩) hHeld ?_
        case refine_2 => (intro w hSw; (try dsimp only at hSw); (try (obtain ⟨s0, s1, s2, s3⟩ := hSw)); simp only [List.getElem_cons_zero, List.getElem_cons_succ]; go_simp <;> with_reducible rfl)
        simp only [List.getElem_cons_zero, List.getElem_cons_succ, Act.put, List.setIfInBounds_toArray, List.set_cons_zero, List.set_cons_succ]
        refine heldT_take 2 (v := ?_) (by simp) (by kernel_rfl) (by kernel_rfl) (by kernel_rfl) (by kernel_rfl) (fun _ _ _ h => h) (Or.inl ⟨by rfl, ?_⟩) hHeld ?_
        case refine_2 => (intro w hSw; (try dsimp only at hSw); (try (obtain ⟨s0, s1, s2, s3⟩ := hSw)); simp only [List.getElem_cons_zero, List.getElem_cons_succ]; go_simp <;> with_reducible rfl)
        simp only [List.getElem_cons_zero, List.getElem_cons_succ, Act.put, List.setIfInBounds_toArray, List.set_cons_zero, List.set_cons_succ]
        refine heldT_take 3 (v := ?_) (by simp) (by kernel_rfl) (by kernel_rfl) (by kernel_rfl) (by kernel_rfl) (fun _ _ _ h => h) (Or.inl ⟨by rfl, ?_⟩) hHeld ?_
        case refine_2 => (intro w hSw; (try dsimp only at hSw); (try (obtain ⟨s0, s1, s2, s3⟩ := hSw)); simp only [List.getElem_cons_zero, List.getElem_cons_succ]; go_simp <;> with_reducible rfl)
        simp only [List.getElem_cons_zero, List.getElem_cons_succ, Act.put, List.setIfInBounds_toArray, List.set_cons_zero, List.set_cons_succ]
        refine heldT_take 4 (v := ?_) (by simp) (by kernel_rfl) (by kernel_rfl) (by kernel_rfl) (by kernel_rfl) (fun _ _ _ h => h) (Or.inl ⟨by rfl, ?_⟩) hHeld ?_
        case refine_2 => (intro w hSw; (try dsimp only at hSw); (try (obtain ⟨s0, s1, s2, s3⟩ := hSw)); simp only [List.getElem_cons_zero, List.getElem_cons_succ]; go_simp <;> with_reducible rfl)
        simp only [List.getElem_cons_zero, List.getElem_cons_succ, Act.put, List.setIfInBounds_toArray, List.set_cons_zero, List.set_cons_succ]
        refine heldT_take 5 (v := ?_) (by simp) (by kernel_rfl) (by kernel_rfl) (by kernel_rfl) (by kernel_rfl) (fun _ _ _ h => h) (Or.inl ⟨by rfl, ?_⟩) hHeld ?_
        case refine_2 => (intro w hSw; (try dsimp only at hSw); obtain ⟨s0, s1, s2, s3⟩ := hSw; have hl := HLK1.out w s1; simp only [List.getElem_cons_zero, List.getElem_cons_succ]; go_simp <;> with_reducible rfl)
        simp only [List.getElem_cons_zero, List.getElem_cons_succ, Act.put, List.setIfInBounds_toArray, List.set_cons_zero, List.set_cons_succ]
        refine heldT_take 6 (v := ?_) (by simp) (by kernel_rfl) (by kernel_rfl) (by kernel_rfl) (by kernel_rfl) (fun _ _ _ h => h) (Or.inl ⟨by rfl, ?_⟩) hHeld ?_
        case refine_2 => (intro w hSw; (try dsimp only at hSw); (try (obtain ⟨s0, s1, s2, s3⟩ := hSw)); simp only [List.getElem_cons_zero, List.getElem_cons_succ]; go_simp <;> with_reducible rfl)
        simp only [List.getElem_cons_zero, List.getElem_cons_succ, Act.put, List.setIfInBounds_toArray, List.set_cons_zero, List.set_cons_succ]
        refine heldT_take 7 (v := ?_) (by simp) (by kernel_rfl) (by kernel_rfl) (by kernel_rfl) (by kernel_rfl) (fun _ _ _ h => h) (Or.inl ⟨by rfl, ?_⟩) hHeld ?_
        case refine_2 => (intro w hSw; (try dsimp only at hSw); (try (obtain ⟨s0, s1, s2, s3⟩ := hSw)); simp only [List.getElem_cons_zero, List.getElem_cons_succ]; go_simp <;> with_reducible rfl)
        simp only [List.getElem_cons_zero, List.getElem_cons_succ, Act.put, List.setIfInBounds_toArray, List.set_cons_zero, List.set_cons_succ]
        refine heldT_take 8 (v := ?_) (by simp) (by kernel_rfl) (by kernel_rfl) (by kernel_rfl) (by kernel_rfl) (fun _ _ _ h => h) (Or.inl ⟨by rfl, ?_⟩) hHeld ?_
        case refine_2 => (intro w hSw; (try dsimp only at hSw); (try (obtain ⟨s0, s1, s2, s3⟩ := hSw)); simp only [List.getElem_cons_zero, List.getElem_cons_succ]; go_simp <;> with_reducible rfl)
        simp only [List.getElem_cons_zero, List.getElem_cons_succ, Act.put, List.setIfInBounds_toArray, List.set_cons_zero, List.set_cons_succ]
        refine heldT_take 9 (v := ?_) (by simp) (by kernel_rfl) (by kernel_rfl) (by kernel_rfl) (by kernel_rfl) (fun _ _ _ h => h) (Or.inl ⟨by rfl, ?_⟩) hHeld ?_
        case refine_2 => (intro w hSw; (try dsimp only at hSw); (try (obtain ⟨s0, s1, s2, s3⟩ := hSw)); simp only [List.getElem_cons_zero, List.getElem_cons_succ]; go_simp <;> with_reducible rfl)
        simp only [List.getElem_cons_zero, List.getElem_cons_succ, Act.put, List.setIfInBounds_toArray, List.set_cons_zero, List.set_cons_succ]
        refine heldT_take 10 (v := ?_) (by simp) (by kernel_rfl) (by kernel_rfl) (by kernel_rfl) (by kernel_rfl) (fun _ _ _ h => h) (Or.inl ⟨by rfl, ?_⟩) hHeld ?_
        case refine_2 => (intro w hSw; (try dsimp only at hSw); (try (obtain ⟨s0, s1, s2, s3⟩ := hSw)); simp only [List.getElem_cons_zero, List.getElem_cons_succ]; go_simp <;> with_reducible rfl)
        simp only [List.getElem_cons_zero, List.getElem_cons_succ, Act.put, List.setIfInBounds_toArray, List.set_cons_zero, List.set_cons_succ]
        refine heldT_take 11 (v := ?_) (by simp) (by kernel_rfl) (by kernel_rfl) (by kernel_rfl) (by kernel_rfl) (fun _ _ _ h => h) (Or.inl ⟨by rfl, ?_⟩) hHeld ?_
        case refine_2 => (intro w hSw; (try dsimp only at hSw); obtain ⟨s0, s1, s2, s3⟩ := hSw; have hl := HLK1.out w s1; simp only [List.getElem_cons_zero, List.getElem_cons_succ]; go_simp <;> with_reducible rfl)
        simp only [List.getElem_cons_zero, List.getElem_cons_succ, Act.put, List.setIfInBounds_toArray, List.set_cons_zero, List.set_cons_succ]
        refine heldT_take 12 (v := ?_) (by simp) (by kernel_rfl) (by kernel_rfl) (by kernel_rfl) (by kernel_rfl) (fun _ _ _ h => h) (Or.inl ⟨by rfl, ?_⟩) hHeld ?_
        case refine_2 => (intro w hSw; (try dsimp only at hSw); (try (obtain ⟨s0, s1, s2, s3⟩ := hSw)); simp only [List.getElem_cons_zero, List.getElem_cons_succ]; go_simp <;> with_reducible rfl)
        simp only [List.getElem_cons_zero, List.getElem_cons_succ, Act.put, List.setIfInBounds_toArray, List.set_cons_zero, List.set_cons_succ]
        refine heldT_take 13 (v := ?_) (by simp) (by kernel_rfl) (by kernel_rfl) (by kernel_rfl) (by kernel_rfl) (fun _ _ _ h => h) (Or.inl ⟨by rfl, ?_⟩) hHeld ?_
        case refine_2 => (intro w hSw; (try dsimp only at hSw); (try (obtain ⟨s0, s1, s2, s3⟩ := hSw)); simp only [List.getElem_cons_zero, List.getElem_cons_succ]; go_simp <;> with_reducible rfl)
        simp only [List.getElem_cons_zero, List.getElem_cons_succ, Act.put, List.setIfInBounds_toArray, List.set_cons_zero, List.set_cons_succ]
        refine heldT_take 14 (v := ?_) (by simp) (by kernel_rfl) (by kernel_rfl) (by kernel_rfl) (by kernel_rfl) (fun _ _ _ h => h) (Or.inl ⟨by rfl, ?_⟩) hHeld ?_
        case refine_2 => (intro w hSw; (try dsimp only at hSw); (try (obtain ⟨s0, s1, s2, s3⟩ := hSw)); simp only [List.getElem_cons_zero, List.getElem_cons_succ]; go_simp <;> with_reducible rfl)
        simp only [List.getElem_cons_zero, List.getElem_cons_succ, Act.put, List.setIfInBounds_toArray, List.set_cons_zero, List.set_cons_succ]
        refine heldT_take 15 (v := ?_) (by simp) (by kernel_rfl) (by kernel_rfl) (by kernel_rfl) (by kernel_rfl) (fun _ _ _ h => h) (Or.inl ⟨by rfl, ?_⟩) hHeld ?_
        case refine_2 => (intro w hSw; (try dsimp only at hSw); (try (obtain ⟨s0, s1, s2, s3⟩ := hSw)); simp only [List.getElem_cons_zero, List.getElem_cons_succ]; go_simp <;> with_reducible rfl)
        simp only [List.getElem_cons_zero, List.getElem_cons_succ, Act.put, List.setIfInBounds_toArray, List.set_cons_zero, List.set_cons_succ]
        refine heldT_sole 16 (by simp) (by kernel_rfl) (fun K hK => ?_)
        simp only [List.getElem_cons_zero, List.getElem_cons_succ]
        rw [if_pos (by rfl)]
        refine wp_append_gotq (w := wc.drew) (.tmp 85) (.tmp 86) rfl base _ fe1.f.b rfl (by rw [← HV1.out]; exact HGT.out.kept (fun _ _ => rfl) (Nat.le_refl _)) wc.heap.size Aq cq Q rfl (HRQ4.out.keep fun _ _ => rfl) (by omega) hbw ?_
        intro v5 w5 hg5 hgr5 hfr5
        obtain ⟨A5, c5', hv5, _, _, _⟩ := hg5.shape
        subst hv5
        have hgr : wc.grownBy w5 fe1.v.ownBlock := by rw [HV1.out]; exact ⟨hgr5.os, hgr5.tape, hgr5.output, hgr5.size, hgr5.block⟩
        have hK5 : Blk w5 fe1.blk 83 #[fe1.v, .int .i64 fe1.f.safe] := HKB.out.grown hgr (fun e => got_blk_ne HGT.out HKB.out (by decide) e.symm)
        have hgne : g ≠ m := map_ne HA.out.at_.blk HA.out.at_.map
        have e5 : w5.cell? ⟨g, 5, none⟩ = some (.map (some m)) := (World.cell?_of_block (w := wc) (hgr.block g HA.out.at_.blk.lt (fun e => got_blk_ne HGT.out HA.out.at_.blk (by decide) e.symm))).trans d5
        have hM5 : MapAt Tryz.prog 9 w5 m (sec FE.blk es1) := HM1.keep (hgr.block m HM1.lt (fun e => got_map_ne HGT.out HM1 e.symm))
        have b0 : w5.cell? ⟨fe1.blk, 0, none⟩ = some fe1.v := hK5.cell 0
        have bf := hK5.frozen 0
        rw [HV1.out] at b0
        have hst := grown_setCell w5 fe1.blk 0 (.slice A5 (fe1.f.b ++ Q).length c5')
        have hgot6 : Got (w5.setCell ⟨fe1.blk, 0, none⟩ (.slice A5 (fe1.f.b ++ Q).length c5')) base (.slice A5 (fe1.f.b ++ Q).length c5') (fe1.f.b ++ Q) := hg5.kept (fun q hq => Below.heap_setCell w5 _ _ q (fun e => got_blk_ne hg5 hK5 (by decide) (by rw [hq, e]))) hst.size
        have T1 : DiskTo wc base g m es1 ⟨p', room, asPut s.data.toList ⟨fe1.f.b ++ Q, fe1.f.safe⟩ (sec FE.f es1)⟩ (w5.setCell ⟨fe1.blk, 0, none⟩ (.slice A5 (fe1.f.b ++ Q).length c5')) :=
         DiskTo.file_set HA.out.at_ (Fr.refl _ _) HA.out.got (.slice A5 (fe1.f.b ++ Q).length c5') ⟨fe1.f.b ++ Q, fe1.f.safe⟩ (Nat.le_trans hgr.size hst.size) (Blk.set_ hK5 0 _) hgot6 (by have := HA.out.at_.safe _ (asGet_some HA.out.got); show fe1.f.safe ≤ (fe1.f.b ++ Q).length; rw [List.length_append]; exact Nat.le_trans this (Nat.le_add_right _ _))
          (fun k hk => by
           rcases hfr5 k hk with h1 | h1
           ·exact .inl (by rw [HV1.out]; exact h1)
           ·exact .inr h1) (fun k hk h1 h2 => (Below.heap_setCell w5 _ _ k (fun e => h1 e)).trans (hgr.block k hk (fun e => h2 e.symm))) ⟨hst.os.trans hgr.os, hst.tape.trans hgr.tape, hst.output.trans hgr.output⟩
        have T2 := DiskTo.step2 HA.out.fr HA.out.foot T1
        have HT : Hid (DiskTo w base g m es R.2 (w5.setCell ⟨fe1.blk, 0, none⟩ (.slice A5 (fe1.f.b ++ Q).length c5'))) := Lib.hid (by
         rw [HR'.out]
         rw [HA.out.fs] at T2
         have e6 := HA.out.f
         rw [e6] at T2
         rw [e6]
         exact T2)
        clear T1 T2 hgot6 hg5 hgr5 hfr5 hgr hst
        refine hK.out _ _ ⟨e5, hM5, b0, trivial⟩ (fun hHeld => ?_)
        clear hK K
        try simp only [Act.put, List.setIfInBounds_toArray, List.set_cons_zero, List.set_cons_succ]
        refine heldT_sole 17 (by simp) (by kernel_rfl) (fun K hK => ?_)
        simp only [List.getElem_cons_zero, List.getElem_cons_succ]
        go_simp
        refine hK.out _ _ ⟨e5, hM5, b0, trivial⟩ (fun hHeld => ?_)
        clear hK K
        try simp only [Act.put, List.setIfInBounds_toArray, List.set_cons_zero, List.set_cons_succ]
        refine heldT_sole 18 (by simp) (by kernel_rfl) (fun K hK => ?_)
        simp only [List.getElem_cons_zero, List.getElem_cons_succ]
        go_simp
        refine hK.out _ _ ⟨e5, hM5, b0, trivial⟩ (fun hHeld => ?_)
        clear hK K
        try simp only [Act.put, List.setIfInBounds_toArray, List.set_cons_zero, List.set_cons_succ]
        refine heldT_last (t := 19) (by simp) (by kernel_rfl) (by kernel_rfl) (fun K hK => ?_)
        simp only [List.getElem_cons_zero, List.getElem_cons_succ]
        go_simp
        refine hK.out _ _ ?_
        clear hK K hHeld e5 hM5 b0 bf d5 e0 HM1 hK5
        rw [List.length_append] at HT
        generalize w5.setCell ⟨fe1.blk, 0, none⟩ (.slice A5 (fe1.f.b.length + Q.length) c5') = w6 at HT ⊢
        cases gone with
        | true =>
         have HE : Hid (R.1 = 50) := Lib.hid (by rw [HR'.out]; rfl)
         clear HQ HR'
         go_wp2
         go_ret
         exact ⟨by rw [HE.out]; rfl, HT.out⟩
        | false =>
         have HE : Hid (R.1 = 0) := Lib.hid (by rw [HR'.out]; rfl)
         clear HQ HR'
         go_wp2
         go_ret
         exact ⟨by rw [HE.out]; rfl, HT.out⟩
end
end Go.Proofs.YtgeofijddhflaaaGreatDoor
