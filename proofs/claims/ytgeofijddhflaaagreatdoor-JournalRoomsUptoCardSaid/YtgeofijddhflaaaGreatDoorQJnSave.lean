/- journal.Save. Condition: the journal is on a disk of a call's own, within bounds; the entries' memory is known; the library's variables stand as laid. -/
import Derived.Test.YtgeofijddhflaaaGreatDoorQJnComp
import Derived.Test.YtgeofijddhflaaaGreatDoorQJnRoomT
set_option linter.unusedVariables false
set_option linter.unusedSimpArgs false
namespace Go.Proofs.YtgeofijddhflaaaGreatDoor
open Go.RowKit Go.Maps Oct
set_option maxHeartbeats 8000000 in
set_option maxRecDepth 100000 in
theorem jsave_any {w : World} {base g m gj : Nat} {F E : Nat → Prop} {d : DkD} {j : JnP} {es : List (Nm × FE)} (h : JnK w base g m gj F d j es) (hbw : base ≤ w.heap.size) {L : Nat} (hok : JDk L d) (hL : L ≤ 100000000000) (hE : ∀ w', Below base w w' → Tab w') (hseg : j.segs.length ≤ 1000000) (hks : ∀ s ∈ j.segs, 1 ≤ s.k ∧ s.k ≤ 999999999)
  (hlong : ∀ s ∈ j.segs, s.l.length ≤ 100000000 ∧ 0 ≤ s.long ∧ s.long ≤ 1000000000000)
  (hends : ∀ s ∈ j.segs, s.ends ≠ [] ∧ ∀ n ∈ s.ends, 0 ≤ n ∧ n ≤ 1000000000000) (hsum : (j.segs.map SegP.long).sum ≤ sizes d.fs)
  (Ae : Option Addr) (rs : List EntR) (ce : Nat) (hre : RdF w E Ae (erCells rs)) (hde : ∀ q ∈ rs, DatF w E q.v q.e.b) (hEl : ∀ k, E k → k < w.heap.size) (hrl : rs.length ≤ 2000000) (hfl : ((rs.map EntR.e).map jPiece).flatten.length ≤ 1000000000)
  (hnum : ∀ q ∈ rs, (-9223372036854775808 ≤ q.e.ix ∧ q.e.ix ≤ 9223372036854775807) ∧ (-9223372036854775808 ≤ q.e.tm ∧ q.e.tm ≤ 9223372036854775807) ∧ (-9223372036854775808 ≤ q.e.kd ∧ q.e.kd ≤ 9223372036854775807)) :
  Calls Tryz.prog 15 #[.pointer (some ⟨gj, 0, none⟩), .slice Ae rs.length ce] w fun e w' => JnKTo w base g m gj es F (saveJ j d (rs.map EntR.e)) e w' := by
 have hgj := h.jn.lt
 have hFl : ∀ k, F k → k < w.heap.size := fun k hk => (h.apart k hk).2.1
 have hmay := fun w' (hb : Below w.heap.size w w') => jmay_any (h.jn.below hFl hb) (fun k hk => by have := hFl k hk; have := hb.size; omega) Ae rs ce (hre.keep hb.size (fun k hk => hb.block k (hEl k hk))) (fun k hk => by have := hEl k hk; have := hb.size; omega) (fun q hq => by obtain ⟨Av, cd, hv, _⟩ := hde q hq; exact ⟨Av, cd, hv⟩) (by omega) hnum
 obtain ⟨l, hl⟩ : ∃ l, l = rs.map EntR.e := ⟨_, rfl⟩
 rw [← hl] at hmay hfl ⊢
 obtain ⟨mj, hmj⟩ : ∃ x, x = mayJ j l := ⟨_, rfl⟩
 rw [← hmj] at hmay
 obtain ⟨jb, hjb⟩ : ∃ x, x = j.bad := ⟨_, rfl⟩
 obtain ⟨⟨A, c, ads, h1, h2, h3, h4, h5⟩, h6, hjn⟩ := h.jn
 rw [← hjb] at h1
 obtain ⟨nl, hnl⟩ : ∃ n, n = j.segs.length := ⟨_, rfl⟩
 rw [← hnl] at h2 h4 h6 hseg
 have hJB : Blk w gj 53 #[.int .i64 j.term, .int .i64 j.vote, .slice A nl c, .pointer (some ⟨g, 0, none⟩), .int .i64 jb] := by rw [hnl]; exact h1
 obtain ⟨w0, hw0⟩ : ∃ W, W = w.alloc (.cells #[.pointer (some ⟨gj, 0, none⟩)] 30) := ⟨_, rfl⟩
 have hB0 : Below w.heap.size w w0 := by rw [hw0]; exact (Below.refl _ w).alloc (Nat.le_refl _) _
 have hX0 : Blk w0 w.heap.size 30 #[.pointer (some ⟨gj, 0, none⟩)] := by rw [hw0]; exact Blk.new w _ _
 have hJ0 := hJB.below hB0 hgj
 have b0 : w0.cell? ⟨w.heap.size, 0, none⟩ = some (.pointer (some ⟨gj, 0, none⟩)) := hX0.cell 0
 have j4 : w0.cell? ⟨gj, 4, none⟩ = some (.int .i64 jb) := hJ0.cell 4
 have hs0 := hB0.size
 have hxl := hX0.lt
 have HRD := Lib.hid h3
 have HS5 := Lib.hid h5
 have HH := Lib.hid h
 have HOK := Lib.hid hok
 have HE := Lib.hid hE
 have HKS := Lib.hid hks
 have HLONG := Lib.hid hlong
 have HENDS := Lib.hid hends
 have HSUM := Lib.hid hsum
 have HJB := Lib.hid hjb
 have HNL := Lib.hid hnl
 have HADS := Lib.hid h4
 have HNUM := Lib.hid hnum
 have HJN := Lib.hid hjn
 have HFL := Lib.hid hFl
 have HMAY := Lib.hid (hmay w0 hB0)
 have HMJ := Lib.hid hmj
 have HLL := Lib.hid hl
 have HRE := Lib.hid hre
 have HDE := Lib.hid hde
 have HEL := Lib.hid hEl
 have HB0 := Lib.hid hB0
 have HX0 := Lib.hid hX0
 have HJ0 := Lib.hid hJ0
 have HW0 := Lib.hid hw0
 clear h h1 h3 h4 h5 h6 hok hE hks hlong hends hsum hjb hnl hnum hjn hFl hmay hmj hl hre hde hEl hB0 hX0 hJ0 hw0 hJB
 go_enter Tryz.func15, Tryz.ntmps15
 go_upto_region 1 with fail
 rw [← HW0.out]
 by_cases hb : jb = 0
 ·subst hb
  go_wp2_with fail
  refine HMAY.out.mono ?_
  rintro e w1 ⟨rfl, hb1⟩
  have HC1 := Lib.hid hb1
  have HBW1 := Lib.hid (HB0.out.trans (hb1.mono hs0))
  have hs1 := hb1.size
  clear hb1 HMAY b0 j4
  by_cases hm : mj = 0
  ·subst hm
   rcases Nat.eq_zero_or_pos rs.length with hz | hz
   ·have HR := Lib.hid (show saveJ j d l = (0, j, d) by
     have h0 : l = [] := by rw [HLL.out, List.eq_nil_of_length_eq_zero hz]; rfl
     have hmm := HMJ.out
     unfold saveJ
     rw [if_neg (by rw [← HJB.out]; simp), if_neg (by rw [← hmm]; simp), h0])
    obtain ⟨rn, hrn⟩ : ∃ n, n = rs.length := ⟨_, rfl⟩
    rw [← hrn] at hz ⊢
    subst hz
    clear hrn
    go_wp2_with fail
    go_ret
    exact HH.out.same HBW1.out HR.out
   ·have hzI : ((rs.length : Int) == 0) = false := beq_eq_false_iff_ne.2 (by omega)
    obtain ⟨eb, eo, hAe, _, hel, hec⟩ := HRE.out (by rw [erCells_len]; omega)
    subst hAe
    obtain ⟨ix, hix⟩ : ∃ x, x = rs[0].e.ix := ⟨_, rfl⟩
    have hixb := (HNUM.out rs[0] (List.getElem_mem hz)).1
    rw [← hix] at hixb
    have hix0 : 0 ≤ ix ∧ ix ≤ 9223372036854775806 := by
     have h0 : l = rs[0].e :: (rs.drop 1).map EntR.e := by
      rw [HLL.out]
      have e : rs = rs[0] :: rs.drop 1 := List.drop_eq_getElem_cons hz
      conv => lhs; rw [e]
      rfl
     have hmm := HMJ.out.symm
     rw [h0] at hmm
     have h1 := may_first hmm
     have h2 := JnP.base_low HH.out.jn
     rw [← hix] at h1
     omega
    have HSV : Hid (saveJ j d l = saveR j d l ix) := Lib.hid (by
     have h0 : l = rs[0].e :: (rs.drop 1).map EntR.e := by
      rw [HLL.out]
      have e : rs = rs[0] :: rs.drop 1 := List.drop_eq_getElem_cons hz
      conv => lhs; rw [e]
      rfl
     rw [hix]
     exact saveJ_go HJB.out.symm HMJ.out.symm h0)
    have e0 : w1.cell? ⟨eb, eo, none⟩ = some (.int .i64 ix) := (HBW1.out.cell (p := ⟨eb, eo, none⟩) hel).trans (hec 0 _ (by rw [show (0 : Nat) = 0 * 4 + 0 from rfl, erCells_at _ hz (by omega), hix]; rfl))
    have b1 : w1.cell? ⟨w.heap.size, 0, none⟩ = some (.pointer (some ⟨gj, 0, none⟩)) := (HX0.out.below HC1.out hxl).cell 0
    have j2 : w1.cell? ⟨gj, 2, none⟩ = some (.slice A nl c) := (HJ0.out.below HC1.out (by omega)).cell 2
    have HEC := Lib.hid hec
    have HIX := Lib.hid hix
    clear hec hix
    go_upto_block 0 with fail
    obtain ⟨N, hN⟩ : ∃ N, N = keepN j.segs ix nl := ⟨_, rfl⟩
    have HN := Lib.hid hN
    clear hN
    go_cut [7, 8, 9] from 50 to 94 (fun c7 c8 c9 wx => ∃ (dv : Value) (vs : List Value) (G : Nat → Prop), c7 = .int .i64 N ∧ c8 = .int .i64 (freedK j N) ∧ c9 = dv ∧ N ≤ nl ∧ vs.length ≤ nl ∧ Hid (Below w0.heap.size w0 wx) ∧ Hid (ActsS wx G w0.heap.size gj g dv vs ((goneK j N).map fun x => JAct.rm (jName x.k))) ∧ Hid (∀ x, G x → w0.heap.size ≤ x))
    case first =>
     go_wp2_with fail
     go_loopw [7, 8, 9] (fun i7 i8 i9 wr => ∃ (k : Nat) (dv : Value) (vs : List Value) (G : Nat → Prop), k ≤ nl ∧ i7 = .int .i64 k ∧ i8 = .int .i64 (freedK j k) ∧ i9 = dv ∧ vs.length + k ≤ nl ∧ Hid (N = keepN j.segs ix k) ∧ Hid (Below w0.heap.size w0 wr) ∧ Hid (ActsS wr G w0.heap.size gj g dv vs ((goneK j k).map fun x => JAct.rm (jName x.k))) ∧ Hid (∀ x, G x → w0.heap.size ≤ x)) (fun i7 _ _ _ => (intOf i7).toNat)
     case atStart =>
      have hg0 : goneK j nl = [] := by unfold goneK; rw [List.drop_eq_nil_of_le (by rw [← HNL.out]; exact Nat.le_refl _)]; rfl
      refine ⟨nl, .slice none 0 0, [], fun _ => False, Nat.le_refl _, rfl, ?_, rfl, by simp, HN, HC1, Lib.hid ?_, Lib.hid (fun _ h => h.elim)⟩
      ·unfold freedK; rw [hg0]; rfl
      ·rw [hg0]; exact ActsS.nil
     case round =>
      obtain ⟨k, dv, vs, G, hk, rfl, rfl, hdv, hvl, HNK, HC, HA, HGL⟩ := hrel
      have hdv2 := hdv.symm
      clear hdv
      subst hdv2
      clear HN b1 j2 e0 HC1
      have hsr := HC.out.size
      have HBW := Lib.hid (HB0.out.trans (HC.out.mono hs0))
      have b2 : wr.cell? ⟨w.heap.size, 0, none⟩ = some (.pointer (some ⟨gj, 0, none⟩)) := (HX0.out.below HC.out hxl).cell 0
      have k2 : wr.cell? ⟨gj, 2, none⟩ = some (.slice A nl c) := (HJ0.out.below HC.out (by omega)).cell 2
      by_cases hk1 : 1 < k
      ·obtain ⟨m1, hm1⟩ : ∃ m, m = k - 1 := ⟨_, rfl⟩
       have hml : m1 < j.segs.length := by rw [← HNL.out]; omega
       have hma : m1 < ads.length := by rw [HADS.out]; omega
       have hkeep : ∀ q, F q → wr.heap[q]? = w.heap[q]? := fun q hq => HBW.out.block q (HFL.out q hq)
       obtain ⟨ab, ao, e5, hFab, hal, hac⟩ := HRD.out (by rw [List.length_map]; omega)
       subst e5
       have hM0 := HS5.out m1 hma hml
       have hM := hM0.keep HBW.out.size hkeep
       obtain ⟨b, o, Al, cl, rs', Ae', ce', hab, hFb, hltb, _, d1, _⟩ := hM.rd.cells
       have r0 : w.cell? ⟨ab, ao + m1, none⟩ = some (.pointer (some ⟨b, o, none⟩)) := hac m1 _ (by rw [List.getElem?_map, List.getElem?_eq_getElem hma, hab]; rfl)
       have r1 : wr.cell? ⟨ab, ao + m1, none⟩ = some (.pointer (some ⟨b, o, none⟩)) := (HBW.out.cell (p := ⟨ab, ao + m1, none⟩) hal).trans r0
       have hstep : N = if ix ≤ j.segs[m1].first then keepN j.segs ix m1 else k := by
        obtain ⟨m, hm⟩ : ∃ m, k = m + 2 := ⟨k - 2, by omega⟩
        have e1 : m1 = m + 1 := by omega
        subst e1
        rw [HNK.out, hm]
        show (match j.segs[m + 1]? with | some s => _ | none => _) = _
        rw [List.getElem?_eq_getElem hml]
       have hfst := freedK_step hml
       have hgst := goneK_step hml
       rw [show m1 + 1 = k by omega] at hfst hgst
       have hfb1 := freedK_le (fun s hs => (HLONG.out s hs).2) nl HNL.out.symm (nl - k) (by omega)
       rw [show nl - (nl - k) = k by omega] at hfb1
       have hlo := HLONG.out j.segs[m1] (List.getElem_mem hml)
       have hsub : (k : Int) - 1 = (m1 : Int) := by omega
       have hwm : IntKind.i64.wrap (m1 : Int) = (m1 : Int) := IntWalk.i64_in _ (by omega)
       have hmn : m1 < nl := by omega
       have hmn2 : (m1 : Int) < (nl : Int) := by omega
       have hkpos : (1 : Int) < (k : Int) := by omega
       rw [hab] at hM hM0
       obtain ⟨s, hs⟩ : ∃ s, s = j.segs[m1] := ⟨_, rfl⟩
       rw [← hs] at hM hM0 d1 hstep hfst hgst hlo
       obtain ⟨fi, hfi⟩ : ∃ x, x = s.first := ⟨_, rfl⟩
       rw [← hfi] at d1 hstep
       have HM := Lib.hid hM0
       have HLN := Lib.hid hM.long
       have HST := Lib.hid hstep
       have HGST := Lib.hid hgst
       have HR0 := Lib.hid r0
       obtain ⟨fk, hfk⟩ : ∃ x, x = freedK j k := ⟨_, rfl⟩
       obtain ⟨sl, hsl⟩ : ∃ x, x = s.long := ⟨_, rfl⟩
       rw [← hfk] at hfst hfb1 ⊢
       rw [← hsl] at hfst hlo
       have HLN2 : Hid (Calls Tryz.prog 56 #[.pointer (some ⟨b, o, none⟩)] wr fun e w' => e = .returned (.int .i64 sl) ∧ Below wr.heap.size wr w') := Lib.hid (by rw [hsl]; exact HLN.out)
       have hwf : IntKind.i64.wrap (fk + sl) = fk + sl := IntWalk.i64_in _ (by
        have h1 : ((nl - k : Nat) : Int) * 1000000000000 ≤ 1000000 * 1000000000000 := by omega
        omega)
       have HFST := Lib.hid hfst
       have HFKE := Lib.hid hfk
       clear hac hab hs hfi hM hM0 hstep hgst r0 HLN hfk hsl hfst hm1 hFb hfb1
       by_cases hle : ix ≤ fi
       ·have HN2 := Lib.hid (show N = keepN j.segs ix m1 by rw [HST.out, if_pos hle])
        clear HST HNK
        go_wp2_with fail
        refine HLN2.out.mono ?_
        rintro e w5 ⟨rfl, hb5⟩
        have HC5 := Lib.hid (HC.out.trans (hb5.mono hsr))
        have HA5 := Lib.hid (HA.out.below hb5)
        clear hb5 HLN2 HA HC b2 k2 r1 d1
        go_upto_region 13 with fail
        have HBW5 := Lib.hid (HB0.out.trans (HC5.out.mono hs0))
        have HCd := Lib.hid HC5.out.drew
        have HBWd := Lib.hid HBW5.out.drew
        have hs5 : w0.heap.size ≤ w5.drew.heap.size := HC5.out.size
        have HAd := Lib.hid (HA5.out.below (Below.refl _ w5).drew)
        have b5 : w5.drew.cell? ⟨w.heap.size, 0, none⟩ = some (.pointer (some ⟨gj, 0, none⟩)) := (HX0.out.below HCd.out hxl).cell 0
        have k5 : w5.drew.cell? ⟨gj, 2, none⟩ = some (.slice (some ⟨ab, ao, none⟩) nl c) := (HJ0.out.below HCd.out (by omega)).cell 2
        have r5 : w5.drew.cell? ⟨ab, ao + m1, none⟩ = some (.pointer (some ⟨b, o, none⟩)) := (HBWd.out.cell (p := ⟨ab, ao + m1, none⟩) hal).trans HR0.out
        have HNA := Lib.hid ((HM.out.keep HBWd.out.size (fun q hq => HBWd.out.block q (HFL.out q hq))).nameJ (HE.out w5.drew (HBWd.out.mono hbw)))
        have hqn := jName_len s.k HM.out.rd.num.k
        obtain ⟨nm, hnm⟩ : ∃ n, n = jName s.k := ⟨_, rfl⟩
        have HNM := Lib.hid hnm
        rw [← hnm] at HNA hqn
        clear hnm HC5 HBW5 HA5
        refine wp_region_held_drew (S := fun W => W.cell? ⟨w.heap.size, 0, none⟩ = some (.pointer (some ⟨gj, 0, none⟩)) ∧ W.cell? ⟨gj, 2, none⟩ = some (.slice (some ⟨ab, ao, none⟩) nl c) ∧ W.cell? ⟨ab, ao + m1, none⟩ = some (.pointer (some ⟨b, o, none⟩)) ∧ True) (by kernel_rfl) ⟨b5, k5, r5, trivial⟩ (fun hHeld => ?_)
        refine held_take 0 (v := ?_) (by simp) (by kernel_rfl) (by kernel_rfl) (by kernel_rfl) (fun _ _ _ h => h) (Or.inl ⟨by rfl, ?_⟩) hHeld ?_
        case refine_2 => (intro w hSw; (try dsimp only at hSw); (try (obtain ⟨s0, s1, s2, s3⟩ := hSw)); simp only [List.getElem_cons_zero]; go_simp <;> with_reducible rfl)
        simp only [List.getElem_cons_zero, Act.put, List.setIfInBounds_toArray, List.set_cons_zero, List.set_cons_succ]
        refine held_take 1 (v := ?_) (by simp) (by kernel_rfl) (by kernel_rfl) (by kernel_rfl) (fun _ _ _ h => h) (Or.inl ⟨by rfl, ?_⟩) hHeld ?_
        case refine_2 => (intro w hSw; (try dsimp only at hSw); (try (obtain ⟨s0, s1, s2, s3⟩ := hSw)); simp only [List.getElem_cons_zero, List.getElem_cons_succ]; go_simp <;> with_reducible rfl)
        simp only [List.getElem_cons_zero, List.getElem_cons_succ, Act.put, List.setIfInBounds_toArray, List.set_cons_zero, List.set_cons_succ]
        refine held_take 2 (v := ?_) (by simp) (by kernel_rfl) (by kernel_rfl) (by kernel_rfl) (fun _ _ _ h => h) (Or.inl ⟨by rfl, ?_⟩) hHeld ?_
        case refine_2 => (intro w hSw; (try dsimp only at hSw); (try (obtain ⟨s0, s1, s2, s3⟩ := hSw)); simp only [List.getElem_cons_zero, List.getElem_cons_succ]; go_simp <;> with_reducible rfl)
        simp only [List.getElem_cons_zero, List.getElem_cons_succ, Act.put, List.setIfInBounds_toArray, List.set_cons_zero, List.set_cons_succ]
        refine held_take 3 (v := ?_) (by simp) (by kernel_rfl) (by kernel_rfl) (by kernel_rfl) (fun _ _ _ h => h) (Or.inl ⟨by rfl, ?_⟩) hHeld ?_
        case refine_2 => (intro w hSw; (try dsimp only at hSw); (try (obtain ⟨s0, s1, s2, s3⟩ := hSw)); simp only [List.getElem_cons_zero, List.getElem_cons_succ]; go_simp <;> with_reducible rfl)
        simp only [List.getElem_cons_zero, List.getElem_cons_succ, Act.put, List.setIfInBounds_toArray, List.set_cons_zero, List.set_cons_succ]
        refine held_take 4 (v := ?_) (by simp) (by kernel_rfl) (by kernel_rfl) (by kernel_rfl) (fun _ _ _ h => h) (Or.inl ⟨by rfl, ?_⟩) hHeld ?_
        case refine_2 => (intro w hSw; (try dsimp only at hSw); (try (obtain ⟨s0, s1, s2, s3⟩ := hSw)); simp only [List.getElem_cons_zero, List.getElem_cons_succ]; go_simp <;> with_reducible rfl)
        simp only [List.getElem_cons_zero, List.getElem_cons_succ, Act.put, List.setIfInBounds_toArray, List.set_cons_zero, List.set_cons_succ]
        refine held_take 5 (v := ?_) (by simp) (by kernel_rfl) (by kernel_rfl) (by kernel_rfl) (fun _ _ _ h => h) (Or.inl ⟨by rfl, ?_⟩) hHeld ?_
        case refine_2 => (intro w hSw; (try dsimp only at hSw); (try (obtain ⟨s0, s1, s2, s3⟩ := hSw)); simp only [List.getElem_cons_zero, List.getElem_cons_succ]; go_simp <;> with_reducible rfl)
        simp only [List.getElem_cons_zero, List.getElem_cons_succ, Act.put, List.setIfInBounds_toArray, List.set_cons_zero, List.set_cons_succ]
        refine held_take 6 (v := ?_) (by simp) (by kernel_rfl) (by kernel_rfl) (by kernel_rfl) (fun _ _ _ h => h) (Or.inl ⟨by rfl, ?_⟩) hHeld ?_
        case refine_2 => (intro w hSw; (try dsimp only at hSw); (try (obtain ⟨s0, s1, s2, s3⟩ := hSw)); simp only [List.getElem_cons_zero, List.getElem_cons_succ]; go_simp <;> with_reducible rfl)
        simp only [List.getElem_cons_zero, List.getElem_cons_succ, Act.put, List.setIfInBounds_toArray, List.set_cons_zero, List.set_cons_succ]
        refine held_take 7 (v := ?_) (by simp) (by kernel_rfl) (by kernel_rfl) (by kernel_rfl) (fun _ _ _ h => h) (Or.inl ⟨by rfl, ?_⟩) hHeld ?_
        case refine_2 => (intro w hSw; (try dsimp only at hSw); (try (obtain ⟨s0, s1, s2, s3⟩ := hSw)); simp only [List.getElem_cons_zero, List.getElem_cons_succ]; go_simp <;> with_reducible rfl)
        simp only [List.getElem_cons_zero, List.getElem_cons_succ, Act.put, List.setIfInBounds_toArray, List.set_cons_zero, List.set_cons_succ]
        refine held_take 8 (v := ?_) (by simp) (by kernel_rfl) (by kernel_rfl) (by kernel_rfl) (fun _ _ _ h => h) (Or.inl ⟨by rfl, ?_⟩) hHeld ?_
        case refine_2 => (intro w hSw; (try dsimp only at hSw); (try (obtain ⟨s0, s1, s2, s3⟩ := hSw)); simp only [List.getElem_cons_zero, List.getElem_cons_succ]; go_simp <;> with_reducible rfl)
        simp only [List.getElem_cons_zero, List.getElem_cons_succ, Act.put, List.setIfInBounds_toArray, List.set_cons_zero, List.set_cons_succ]
        refine held_take 9 (v := ?_) (by simp) (by kernel_rfl) (by kernel_rfl) (by kernel_rfl) (fun _ _ _ h => h) (Or.inl ⟨by rfl, ?_⟩) hHeld ?_
        case refine_2 => (intro w hSw; (try dsimp only at hSw); (try (obtain ⟨s0, s1, s2, s3⟩ := hSw)); simp only [List.getElem_cons_zero, List.getElem_cons_succ]; go_simp <;> with_reducible rfl)
        simp only [List.getElem_cons_zero, List.getElem_cons_succ, Act.put, List.setIfInBounds_toArray, List.set_cons_zero, List.set_cons_succ]
        refine held_sole 10 (by simp) (by kernel_rfl) (fun K hK => ?_)
        simp only [List.getElem_cons_zero, List.getElem_cons_succ]
        go_simp
        refine HNA.out.mono ?_
        rintro e w6 ⟨rfl, hb6⟩
        have hs6 := hb6.size
        have HC6 := Lib.hid (HCd.out.trans (hb6.mono hs5))
        have HBW6 := Lib.hid (HB0.out.trans (HC6.out.mono hs0))
        have HB6 := Lib.hid hb6
        have b6 : w6.cell? ⟨w.heap.size, 0, none⟩ = some (.pointer (some ⟨gj, 0, none⟩)) := (HX0.out.below HC6.out hxl).cell 0
        have k6 : w6.cell? ⟨gj, 2, none⟩ = some (.slice (some ⟨ab, ao, none⟩) nl c) := (HJ0.out.below HC6.out (by omega)).cell 2
        have r6 : w6.cell? ⟨ab, ao + m1, none⟩ = some (.pointer (some ⟨b, o, none⟩)) := (HBW6.out.cell (p := ⟨ab, ao + m1, none⟩) hal).trans HR0.out
        clear hb6 HNA b5 k5 r5 HBW6
        refine hK.out _ _ ⟨b6, k6, r6, trivial⟩ (fun hHeld => ?_)
        clear hK K
        try simp only [Act.put, List.setIfInBounds_toArray, List.set_cons_zero, List.set_cons_succ]
        refine held_sole 11 (by simp) (by kernel_rfl) (fun K hK => ?_)
        simp only [List.getElem_cons_zero, List.getElem_cons_succ]
        go_simp
        refine (show Calls _ _ _ w6 _ from jmk_rm (gj := gj) (g := g) nm (by omega) w6).mono ?_
        rintro e w7 ⟨v7, rfl, hb7, ⟨F6, caps6, rfl⟩, _, hact⟩
        have hs7 := hb7.size
        have HC7 := Lib.hid (HC6.out.trans (hb7.mono (by omega)))
        have HBW7 := Lib.hid (HB0.out.trans (HC7.out.mono hs0))
        have HB7 := Lib.hid (HB6.out.trans (hb7.mono hs6))
        have HACT := Lib.hid (hact (fun x => G x ∨ (w5.drew.heap.size ≤ x ∧ x < w7.heap.size)) (fun x h1 h2 => .inr ⟨by omega, h2⟩))
        have b7 : w7.cell? ⟨w.heap.size, 0, none⟩ = some (.pointer (some ⟨gj, 0, none⟩)) := (HX0.out.below HC7.out hxl).cell 0
        have k7 : w7.cell? ⟨gj, 2, none⟩ = some (.slice (some ⟨ab, ao, none⟩) nl c) := (HJ0.out.below HC7.out (by omega)).cell 2
        have r7 : w7.cell? ⟨ab, ao + m1, none⟩ = some (.pointer (some ⟨b, o, none⟩)) := (HBW7.out.cell (p := ⟨ab, ao + m1, none⟩) hal).trans HR0.out
        clear hb7 hact b6 k6 r6 HC6 HB6 HBW7
        refine hK.out _ _ ⟨b7, k7, r7, trivial⟩ (fun hHeld => ?_)
        clear hK K
        try simp only [Act.put, List.setIfInBounds_toArray, List.set_cons_zero, List.set_cons_succ]
        refine held_sole 12 (by simp) (by kernel_rfl) (fun K hK => ?_)
        simp only [List.getElem_cons_zero, List.getElem_cons_succ]
        go_simp
        have hbA : Below w7.heap.size w7 (w7.alloc (.cells #[.func (.func F6) #[] caps6] 98)) := (Below.refl _ w7).alloc (Nat.le_refl _) _
        have HCA := Lib.hid (HC7.out.trans (hbA.mono (by omega)))
        have HBWA := Lib.hid (HB0.out.trans (HCA.out.mono hs0))
        have HAA := Lib.hid (HAd.out.below (HB7.out.trans (hbA.mono (by have := HB7.out.size; omega))))
        have hwA : w0.heap.size ≤ (w7.alloc (.cells #[.func (.func F6) #[] caps6] 98)).heap.size := HCA.out.size
        have HRA := Lib.hid (rd_lit w7 98 [.func (.func F6) #[] caps6])
        have bA : (w7.alloc (.cells #[.func (.func F6) #[] caps6] 98)).cell? ⟨w.heap.size, 0, none⟩ = some (.pointer (some ⟨gj, 0, none⟩)) := (HX0.out.below HCA.out hxl).cell 0
        have kA : (w7.alloc (.cells #[.func (.func F6) #[] caps6] 98)).cell? ⟨gj, 2, none⟩ = some (.slice (some ⟨ab, ao, none⟩) nl c) := (HJ0.out.below HCA.out (by omega)).cell 2
        have rA : (w7.alloc (.cells #[.func (.func F6) #[] caps6] 98)).cell? ⟨ab, ao + m1, none⟩ = some (.pointer (some ⟨b, o, none⟩)) := (HBWA.out.cell (p := ⟨ab, ao + m1, none⟩) hal).trans HR0.out
        clear hbA b7 k7 r7 HC7 HBWA
        refine hK.out _ _ ⟨bA, kA, rA, trivial⟩ (fun hHeld => ?_)
        clear hK K
        try simp only [Act.put, List.setIfInBounds_toArray, List.set_cons_zero, List.set_cons_succ]
        refine held_sole 13 (by simp) (by kernel_rfl) (fun K hK => ?_)
        simp only [List.getElem_cons_zero, List.getElem_cons_succ]
        rw [if_pos (by rfl)]
        refine wp_append_any (.tmp 81) (.tmp 93) 110 rfl w0.heap.size 98 .nilFunc 8 Tryz.underlying110 info_fnJ rfl _ vs rfl HAA.out.own (w7.heap.size + 1) (some ⟨w7.heap.size, 0, none⟩) 1 1 [.func (.func F6) #[] caps6] rfl rfl HRA.out (by simp [Value.oneCell']) (by unfold maxLen; omega) (by omega) hwA ?_
        intro vq wq hownq hgq hfq
        have hAq := HAd.out.step HB7.out HACT.out hgq hfq hownq
        have hCq := HCA.out.grown hgq hwA (fun r hr => (HAA.out.own.lt r hr).1)
        have HAQ := Lib.hid hAq
        have HCQ := Lib.hid hCq
        have HBWQ := Lib.hid (HB0.out.trans (HCQ.out.mono hs0))
        have bq : wq.cell? ⟨w.heap.size, 0, none⟩ = some (.pointer (some ⟨gj, 0, none⟩)) := (HX0.out.below HCQ.out hxl).cell 0
        have kq : wq.cell? ⟨gj, 2, none⟩ = some (.slice (some ⟨ab, ao, none⟩) nl c) := (HJ0.out.below HCQ.out (by omega)).cell 2
        have rq : wq.cell? ⟨ab, ao + m1, none⟩ = some (.pointer (some ⟨b, o, none⟩)) := (HBWQ.out.cell (p := ⟨ab, ao + m1, none⟩) hal).trans HR0.out
        clear hownq hgq hfq hAq hCq bA kA rA HAA HCA HBWQ
        refine hK.out _ _ ⟨bq, kq, rq, trivial⟩ (fun hHeld => ?_)
        clear hK K
        try simp only [Act.put, List.setIfInBounds_toArray, List.set_cons_zero, List.set_cons_succ]
        refine held_take 14 (v := ?_) (by simp) (by kernel_rfl) (by kernel_rfl) (by kernel_rfl) (fun _ _ _ h => h) (Or.inl ⟨by rfl, ?_⟩) hHeld ?_
        case refine_2 => (intro w hSw; (try dsimp only at hSw); (try (obtain ⟨s0, s1, s2, s3⟩ := hSw)); simp only [List.getElem_cons_zero, List.getElem_cons_succ]; go_simp <;> with_reducible rfl)
        simp only [List.getElem_cons_zero, List.getElem_cons_succ, Act.put, List.setIfInBounds_toArray, List.set_cons_zero, List.set_cons_succ]
        refine wpAnyH_done (by kernel_rfl) ?_ _
        clear hHeld bq kq rq
        go_wp2_with fail
        go_roundw
        case rel =>
         refine ⟨m1, vq, vs ++ [.func (.func F6) #[] caps6], fun x => G x ∨ (w5.drew.heap.size ≤ x ∧ x < w7.heap.size), by omega, rfl, by rw [HFST.out], rfl, by simp; omega, HN2, HCQ, Lib.hid ?_, Lib.hid (fun x hx => ?_)⟩
         ·rw [HGST.out, List.map_append, List.map_cons, List.map_nil, ← HNM.out]
          exact HAQ.out
         ·rcases hx with hx | hx
          ·exact HGL.out x hx
          ·omega
        case measure => simp [intOf]; omega
       ·have hNk : N = k := by rw [HST.out, if_neg hle]
        have HNK2 := Lib.hid hNk
        clear HST HNK hNk
        go_wp2_with fail
        go_meet
        exact ⟨_, vs, G, by rw [HNK2.out], by rw [HNK2.out, HFKE.out], rfl, by rw [HNK2.out]; exact hk, by omega, HC, Lib.hid (by rw [HNK2.out]; exact HA.out), HGL⟩
      ·have hNk : N = k := by
        rw [HNK.out]
        rcases (by omega : k = 0 ∨ k = 1) with h0 | h0
        ·rw [h0]; rfl
        ·rw [h0]; rfl
       have HNK2 := Lib.hid hNk
       have hkn : ¬ (1 : Int) < (k : Int) := by omega
       clear HNK hNk hk1
       go_wp2_with fail
       go_meet
       exact ⟨_, vs, G, by rw [HNK2.out], by rw [HNK2.out], rfl, by rw [HNK2.out]; exact hk, by omega, HC, Lib.hid (by rw [HNK2.out]; exact HA.out), HGL⟩
    case rest =>
     obtain ⟨dv, vs, G, h7, h8, h9, hNn, hvl, HC, HA, HGL⟩ := hcut
     subst h7 h8
     have h9b := h9.symm
     clear h9
     subst h9b
     clear HC1 b1 j2 e0
     have hsr := HC.out.size
     have HBW := Lib.hid (HB0.out.trans (HC.out.mono hs0))
     have b1 : wc.cell? ⟨w.heap.size, 0, none⟩ = some (.pointer (some ⟨gj, 0, none⟩)) := (HX0.out.below HC.out hxl).cell 0
     have j2 : wc.cell? ⟨gj, 2, none⟩ = some (.slice A nl c) := (HJ0.out.below HC.out (by omega)).cell 2
     have hNc : (0 : Int) ≤ (N : Int) ∧ (N : Int) ≤ (c : Int) := by omega
     have hNc2 : N ≤ c := by omega
     have HCL := Lib.hid (jcloneS_any A N c ((ads.map fun a => Value.pointer (some a)).take N) wc (((HRD.out.take N).rd.below HBW.out).more HBW.out.size) (by rw [List.length_take, List.length_map, HADS.out]; omega) (fun u hu => by obtain ⟨a, _, rfl⟩ := List.mem_map.1 (List.mem_of_mem_take hu); rfl) (by omega))
     have hfb := freedK_le (fun s hs => (HLONG.out s hs).2) nl HNL.out.symm (nl - N) (by omega)
     rw [show nl - (nl - N) = N by omega] at hfb
     obtain ⟨f1, hf1⟩ : ∃ x, x = freedK j N := ⟨_, rfl⟩
     rw [← hf1] at hfb ⊢
     have hfb2 : 0 ≤ f1 ∧ f1 ≤ 1000000000000000000 := by
      have h1 : ((nl - N : Nat) : Int) * 1000000000000 ≤ 1000000 * 1000000000000 := by omega
      omega
     have HF1 := Lib.hid hf1
     clear hf1 hfb
     go_wp2_with fail
     refine HCL.out.mono ?_
     rintro e w4 ⟨v4, rfl, hown4, hb4⟩
     obtain ⟨A4, c4, hv4, hNc4, hc4m, _⟩ := jrow_shape hown4
     subst hv4
     have HC4 := Lib.hid (HC.out.trans (hb4.mono hsr))
     have HBW4 := Lib.hid (HB0.out.trans (HC4.out.mono hs0))
     have hs4 := HC4.out.size
     have HA4 := Lib.hid (HA.out.below hb4)
     have HRW : Hid (Own w4 w0.heap.size 108 (.slice A4 N c4) ((ads.take N).map fun a => Value.pointer (some a))) := Lib.hid (by
      unfold Own
      rw [List.length_map, List.length_take, HADS.out, Nat.min_eq_left hNn, List.map_take]
      exact own_low hown4 hsr)
     have HRG := Lib.hid (show ∀ r, (Value.slice A4 N c4).ownBlock = some r → ¬ G r from fun r hr hg => by
      have h1 := (World.ownsRow.lt hown4 r hr).1
      have h2 := HA.out.lt r hg
      omega)
     clear hown4 hb4 HCL b1 j2 HA HC HBW
     go_upto_region 15 with fail
     obtain ⟨wA, hwA⟩ : ∃ W, W = w4.alloc (.cells #[.int .i64 1, .int .i64 ix, .int .i64 0, .slice none 0 0, .slice none 0 0] 104) := ⟨_, rfl⟩
     have hbA : Below w4.heap.size w4 wA := by rw [hwA]; exact (Below.refl _ w4).alloc (Nat.le_refl _) _
     have hkA : Blk wA w4.heap.size 104 #[.int .i64 1, .int .i64 ix, .int .i64 0, .slice none 0 0, .slice none 0 0] := by rw [hwA]; exact Blk.new w4 _ _
     obtain ⟨sb, hsb⟩ : ∃ n, n = w4.heap.size := ⟨_, rfl⟩
     rw [← hsb] at hkA
     have HKA := Lib.hid hkA
     have HWA := Lib.hid hwA
     have HSB := Lib.hid hsb
     have hsA := hkA.lt
     have hsbl : w0.heap.size ≤ sb := by omega
     have HCA := Lib.hid (HC4.out.trans (hbA.mono hs4))
     have HAA := Lib.hid (HA4.out.below hbA)
     have HRWA := Lib.hid (Own.below HRW.out hbA (Nat.le_refl _))
     have HRS := Lib.hid (show ∀ r, (Value.slice A4 N c4).ownBlock = some r → r < sb from fun r hr => by rw [hsb]; exact (HRW.out.lt r hr).2)
     have HGS := Lib.hid (show ∀ x, G x → x < sb from fun x hx => by rw [hsb]; exact HA4.out.lt x hx)
     clear hwA hbA hkA hsb HC4 HBW4 HA4 HRW hs4
     go_upto_region 16 with fail
     rw [← HWA.out, ← HSB.out]
     clear HWA
     go_upto_if 107 with fail
     go_cut [8, 9] from 106 to 152 (fun c8 c9 wx => ∃ (dv1 : Value) (vs1 : List Value) (G1 : Nat → Prop) (adK : List Addr) (fk ft fr : Int) (al : List JAct), c8 = .int .i64 fr ∧ c9 = dv1 ∧ vs1.length ≤ nl + 1 ∧ Hid (CutRel wx w0 F j ix ads N w.heap.size w0.heap.size sb gj g (.slice A4 N c4) dv1 vs1 G1 adK fk ft fr al))
     case first =>
      rcases Nat.eq_zero_or_pos N with hN0 | hN0
      ·have HN0 := Lib.hid hN0
       have hpos : ¬ (0 : Int) < (N : Int) := by omega
       clear hN0
       go_wp2_with fail
       go_meet
       refine ⟨_, vs, G, [], 1, 0, f1, (goneK j N).map fun x => JAct.rm (jName x.k), rfl, rfl, by omega, Lib.hid ⟨HCA.out, HKA.out, ?_, HAA.out, fun x hx => .inr (by have := HGL.out x hx; omega), ⟨fun h => by have := HGS.out sb h; omega, fun r hr => HRG.out r hr⟩, ⟨by omega, by omega, by omega, by omega⟩, .inl ⟨HN0.out, rfl, rfl, rfl, by rw [HF1.out, Int.add_zero], rfl⟩⟩⟩
       have h1 := HRWA.out
       rw [HN0.out] at h1 ⊢
       simpa using h1
      ·obtain ⟨m1, hm1⟩ : ∃ m, m = N - 1 := ⟨_, rfl⟩
       have hml : m1 < j.segs.length := by rw [← HNL.out]; omega
       have hma : m1 < ads.length := by rw [HADS.out]; omega
       have hpos : (0 : Int) < (N : Int) := by omega
       have hsub : (N : Int) - 1 = (m1 : Int) := by omega
       have hwm : IntKind.i64.wrap (m1 : Int) = (m1 : Int) := IntWalk.i64_in _ (by omega)
       have hmn : m1 < N := by omega
       have hmn2 : (m1 : Int) < (N : Int) := by omega
       have HBWA := Lib.hid (HB0.out.trans (HCA.out.mono hs0))
       have hM := HS5.out m1 hma hml
       obtain ⟨ob, oo, Al, cl, rs', Ae', ce', hab, hFb, hltb, _⟩ := hM.rd.cells
       obtain ⟨ab, ao, e5, _, hal, hac⟩ := (RdF.of_own (F := fun _ => True) HRWA.out (fun _ _ _ => trivial)) (by rw [List.length_map, List.length_take, HADS.out]; omega)
       subst e5
       have r0 : wA.cell? ⟨ab, ao + m1, none⟩ = some (.pointer (some ⟨ob, oo, none⟩)) := hac m1 _ (by rw [List.getElem?_map, List.getElem?_take_of_lt (by omega), List.getElem?_eq_getElem hma, hab]; rfl)
       have hlo := HLONG.out j.segs[m1] (List.getElem_mem hml)
       have hkm := HKS.out j.segs[m1] (List.getElem_mem hml)
       rw [hab] at hM
       obtain ⟨s, hs⟩ : ∃ s, s = j.segs[m1] := ⟨_, rfl⟩
       rw [← hs] at hM hlo hkm
       have HM := Lib.hid hM
       have HSS := Lib.hid hs
       have HM1 := Lib.hid hm1
       clear hac hab hs hM hm1 hFb
       -- the box of the old segment
       obtain ⟨wX, hwX⟩ : ∃ W, W = wA.alloc (.cells #[.pointer (some ⟨ob, oo, none⟩)] 108) := ⟨_, rfl⟩
       have hbX : Below wA.heap.size wA wX := by rw [hwX]; exact (Below.refl _ wA).alloc (Nat.le_refl _) _
       have hkX : Blk wX wA.heap.size 108 #[.pointer (some ⟨ob, oo, none⟩)] := by rw [hwX]; exact Blk.new wA _ _
       obtain ⟨xb, hxb⟩ : ∃ n, n = wA.heap.size := ⟨_, rfl⟩
       rw [← hxb] at hkX
       have HKX := Lib.hid hkX
       have HWX := Lib.hid hwX
       have HXB := Lib.hid hxb
       have HCX := Lib.hid (HCA.out.trans (hbX.mono (by omega)))
       have HBWX := Lib.hid (HB0.out.trans (HCX.out.mono hs0))
       have HAX := Lib.hid (HAA.out.below hbX)
       have HRWX := Lib.hid (Own.below HRWA.out hbX (Nat.le_refl _))
       have HKAX := Lib.hid (HKA.out.below hbX hsA)
       have hxbl : sb < xb := by omega
       have hxlt := hkX.lt
       have x0 : wX.cell? ⟨xb, 0, none⟩ = some (.pointer (some ⟨ob, oo, none⟩)) := hkX.cell 0
       have HMX := Lib.hid (HM.out.keep HBWX.out.size (fun q hq => HBWX.out.block q (HFL.out q hq)))
       have HAH := Lib.hid (jahead_any HMX.out (fun q hq => by have := HFL.out q hq; have := HBWX.out.size; omega) (by omega) ix ⟨hix0.1, hixb.2⟩)
       clear hwX hbX hkX hxb HCA HBWA HAA HRWA HKA
       go_upto_region 18 with fail
       rw [← HWX.out, ← HXB.out]
       clear HWX r0
       go_wp2_with fail
       refine HAH.out.mono ?_
       rintro e w6 ⟨cb, rsC, vlC, veC, rfl, hSW, hb6⟩
       obtain ⟨hcB, hcE, hcL, hcT⟩ := HMX.out.ahead_ok ix
       obtain ⟨c, hcc⟩ : ∃ c, c = s.ahead ix := ⟨_, rfl⟩
       rw [← hcc] at hSW hcB hcE hcL hcT
       have HCC := Lib.hid hcc
       have HCB := Lib.hid hcB
       have HCE := Lib.hid hcE
       have HCT := Lib.hid hcT
       have hFw6 : ∀ q, F q → q < w6.heap.size := fun q hq => by have := HFL.out q hq; have := HBWX.out.size; have := hb6.size; omega
       have HFW6 := Lib.hid hFw6
       have HSM6 := Lib.hid (hSW.segM hcB hcE (by omega) hcT)
       have HC6 := Lib.hid (HCX.out.trans (hb6.mono (by omega)))
       have HBW6 := Lib.hid (HB0.out.trans (HC6.out.mono hs0))
       have HA6 := Lib.hid (HAX.out.below hb6)
       have HRW6 := Lib.hid (Own.below HRWX.out hb6 (Nat.le_refl _))
       have HKA6 := Lib.hid (HKAX.out.below hb6 (by omega))
       have HKX6 := Lib.hid (HKX.out.below hb6 hxlt)
       have HSW6 := Lib.hid hSW
       have HVC := Lib.hid (show (∀ r, vlC.ownBlock = some r → wX.heap.size ≤ r ∧ r < w6.heap.size) ∧ (∀ r, veC.ownBlock = some r → wX.heap.size ≤ r ∧ r < w6.heap.size) from ⟨fun r hr => World.ownsRow.lt hSW.ents r hr, fun r hr => World.ownsRow.lt hSW.ends r hr⟩)
       have hcbl : wX.heap.size ≤ cb ∧ cb < w6.heap.size := ⟨hSW.low, hSW.blk.lt⟩
       have hs6 := hb6.size
       have HLC := Lib.hid (HSM6.out.long)
       have hclb := HSM6.out.longB
       obtain ⟨cg, hcg⟩ : ∃ x, x = c.long := ⟨_, rfl⟩
       rw [← hcg] at hclb
       have HCG := Lib.hid hcg
       have HLC2 : Hid (Calls Tryz.prog 56 #[.pointer (some ⟨cb, 0, none⟩)] w6 fun e w' => e = .returned (.int .i64 cg) ∧ Below w6.heap.size w6 w') := Lib.hid (by rw [hcg]; exact HLC.out)
       clear hSW hb6 hcc hcB hcE hcT hFw6 hcg HLC HCX HBWX HAX HRWX HKAX HKX HMX HAH x0
       go_wp2_with fail
       refine HLC2.out.mono ?_
       rintro e w7 ⟨rfl, hb7⟩
       obtain ⟨wL, hwL⟩ : ∃ W, W = w7.alloc (.cells #[.int .i64 cg] 3) := ⟨_, rfl⟩
       have hbL0 : Below w7.heap.size w7 wL := by rw [hwL]; exact (Below.refl _ w7).alloc (Nat.le_refl _) _
       have hkL : Blk wL w7.heap.size 3 #[.int .i64 cg] := by rw [hwL]; exact Blk.new w7 _ _
       obtain ⟨lb, hlb⟩ : ∃ n, n = w7.heap.size := ⟨_, rfl⟩
       rw [← hlb] at hkL
       have hs7 := hb7.size
       have hbL := hb7.trans (hbL0.mono hs7)
       have HKL := Lib.hid hkL
       have HWL := Lib.hid hwL
       have HLBE := Lib.hid hlb
       have hllt := hkL.lt
       have hlbl : w6.heap.size ≤ lb := by omega
       have HCL := Lib.hid (HC6.out.trans (hbL.mono (by omega)))
       have HBWL := Lib.hid (HB0.out.trans (HCL.out.mono hs0))
       have HAL := Lib.hid (HA6.out.below hbL)
       have HRWL := Lib.hid (Own.below HRW6.out hbL (Nat.le_refl _))
       have HKAL := Lib.hid (HKA6.out.below hbL (by omega))
       have HKXL := Lib.hid (HKX6.out.below hbL (by omega))
       have HSWL := Lib.hid (HSW6.out.below HFW6.out hbL)
       have HML := Lib.hid (HM.out.keep HBWL.out.size (fun q hq => HBWL.out.block q (HFL.out q hq)))
       clear hwL hbL0 hkL hlb hb7 hbL HC6 HBW6 HA6 HRW6 HKA6 HKX6 HSW6 HSM6 HLC2
       go_upto_region 20 with fail
       rw [← HWL.out, ← HLBE.out]
       clear HWL
       have hog := HML.out.longB
       obtain ⟨og, hoge⟩ : ∃ x, x = s.long := ⟨_, rfl⟩
       rw [← hoge] at hog hlo
       have HOG := Lib.hid hoge
       have HLO := Lib.hid (fun wy (hb : Below wL.heap.size wL wy) => show Calls Tryz.prog 56 #[.pointer (some ⟨ob, oo, none⟩)] wy fun e w' => e = .returned (.int .i64 og) ∧ Below wy.heap.size wy w' from by rw [hoge]; exact (HML.out.keep hb.size (fun q hq => hb.block q (by have := HFW6.out q hq; omega))).long)
       clear hoge
       have x0 : wL.drew.cell? ⟨xb, 0, none⟩ = some (.pointer (some ⟨ob, oo, none⟩)) := HKXL.out.cell 0
       have l0 : wL.drew.cell? ⟨lb, 0, none⟩ = some (.int .i64 cg) := HKL.out.cell 0
       go_cut [121] from 118 to 121 (fun c121 wx => c121 = .bool (decide (cg < og)) ∧ Hid (Below wL.heap.size wL wx))
       case first =>
        refine wp_region_held_drew (S := fun W => W.cell? ⟨xb, 0, none⟩ = some (.pointer (some ⟨ob, oo, none⟩)) ∧ W.cell? ⟨lb, 0, none⟩ = some (.int .i64 cg) ∧ True ∧ True) (by kernel_rfl) ⟨x0, l0, trivial, trivial⟩ (fun hHeld => ?_)
        refine held_take 0 (v := ?_) (by simp) (by kernel_rfl) (by kernel_rfl) (by kernel_rfl) (fun _ _ _ h => h) (Or.inl ⟨by rfl, ?_⟩) hHeld ?_
        case refine_2 => (intro w hSw; (try dsimp only at hSw); (try (obtain ⟨s0, s1, s2, s3⟩ := hSw)); simp only [List.getElem_cons_zero]; go_simp <;> with_reducible rfl)
        simp only [List.getElem_cons_zero, Act.put, List.setIfInBounds_toArray, List.set_cons_zero, List.set_cons_succ]
        refine held_take 1 (v := ?_) (by simp) (by kernel_rfl) (by kernel_rfl) (by kernel_rfl) (fun _ _ _ h => h) (Or.inl ⟨by rfl, ?_⟩) hHeld ?_
        case refine_2 => (intro w hSw; (try dsimp only at hSw); (try (obtain ⟨s0, s1, s2, s3⟩ := hSw)); simp only [List.getElem_cons_zero, List.getElem_cons_succ]; go_simp <;> with_reducible rfl)
        simp only [List.getElem_cons_zero, List.getElem_cons_succ, Act.put, List.setIfInBounds_toArray, List.set_cons_zero, List.set_cons_succ]
        refine held_sole 2 (by simp) (by kernel_rfl) (fun K hK => ?_)
        simp only [List.getElem_cons_zero, List.getElem_cons_succ]
        go_simp
        refine (HLO.out wL.drew (Below.refl _ wL).drew).mono ?_
        rintro e w8 ⟨rfl, hb8⟩
        have hbd : Below wL.heap.size wL w8 := (Below.refl _ wL).drew.trans hb8
        have HBD := Lib.hid hbd
        have x1 : w8.cell? ⟨xb, 0, none⟩ = some (.pointer (some ⟨ob, oo, none⟩)) := (HKXL.out.below hbd HKXL.out.lt).cell 0
        have l1 : w8.cell? ⟨lb, 0, none⟩ = some (.int .i64 cg) := (HKL.out.below hbd hllt).cell 0
        clear hb8 hbd x0 l0
        refine hK.out _ _ ⟨x1, l1, trivial, trivial⟩ (fun hHeld => ?_)
        clear hK K
        try simp only [Act.put, List.setIfInBounds_toArray, List.set_cons_zero, List.set_cons_succ]
        refine held_take 3 (v := ?_) (by simp) (by kernel_rfl) (by kernel_rfl) (by kernel_rfl) (fun _ _ _ h => h) (Or.inl ⟨by rfl, ?_⟩) hHeld ?_
        case refine_2 => (intro w hSw; (try dsimp only at hSw); (try (obtain ⟨s0, s1, s2, s3⟩ := hSw)); simp only [List.getElem_cons_zero, List.getElem_cons_succ]; go_simp <;> with_reducible rfl)
        simp only [List.getElem_cons_zero, List.getElem_cons_succ, Act.put, List.setIfInBounds_toArray, List.set_cons_zero, List.set_cons_succ]
        refine wpAnyH_done (by kernel_rfl) ?_ _
        clear hHeld x1 l1
        go_wp2_with fail
        go_meet
        exact ⟨rfl, HBD⟩
       case rest =>
        obtain ⟨rfl, HBM⟩ := hcut
        clear x0 l0
        have hbm := HBM.out
        have HCM := Lib.hid (HCL.out.trans (hbm.mono (by omega)))
        have HAM := Lib.hid (HAL.out.below hbm)
        have HRWM := Lib.hid (Own.below HRWL.out hbm (Nat.le_refl _))
        have HKAM := Lib.hid (HKAL.out.below hbm HKAL.out.lt)
        have HKXM := Lib.hid (HKXL.out.below hbm HKXL.out.lt)
        have HKLM := Lib.hid (HKL.out.below hbm hllt)
        have HSWM := Lib.hid (HSWL.out.below (fun q hq => by have := HFW6.out q hq; omega) hbm)
        have hsm := hbm.size
        clear hbm HCL HAL HRWL HKAL HSWL
        go_upto_if 121 with fail
        go_cut [8, 9] from 118 to 131 (fun c8 c9 wx => ∃ (dv1 : Value) (vs1 : List Value) (G1 : Nat → Prop), c8 = .int .i64 (f1 + if cg < og then og - cg else 0) ∧ c9 = dv1 ∧ vs1.length ≤ nl + 1 ∧ wL.heap.size ≤ wx.heap.size ∧ Hid (Below w0.heap.size w0 wx) ∧ Hid (Blk wx sb 104 #[.int .i64 1, .int .i64 ix, .int .i64 0, .slice none 0 0, .slice none 0 0]) ∧ Hid (Blk wx xb 108 #[.pointer (some ⟨ob, oo, none⟩)]) ∧ Hid (SegW wx F wX.heap.size cb c rsC vlC veC) ∧ Hid (ActsS wx G1 w0.heap.size gj g dv1 vs1 ((goneK j N).map (fun x => JAct.rm (jName x.k)) ++ if cg < og then [.cut (jName s.k) cg] else [])) ∧ Hid (∀ x, G1 x → (F x ∨ w.heap.size ≤ x) ∧ (x < sb ∧ ((Value.slice (some ⟨ab, ao, none⟩) N c4).ownBlock ≠ some x) ∨ x = xb ∨ x = lb)) ∧ Hid (Own wx w0.heap.size 108 (.slice (some ⟨ab, ao, none⟩) N c4) ((ads.take N).map fun a => Value.pointer (some a))))
        case first =>
         by_cases hcut : cg < og
         ·have hif : ∀ {α : Type} (a b : α), (if cg < og then a else b) = a := fun a b => if_pos hcut
          have HIF1 := Lib.hid (hif (og - cg) 0)
          have HIF2 := Lib.hid (hif [JAct.cut (jName s.k) cg] [])
          have hwd : IntKind.i64.wrap (og - cg) = og - cg := IntWalk.i64_in _ (by omega)
          have hwe : IntKind.i64.wrap (f1 + (og - cg)) = f1 + (og - cg) := IntWalk.i64_in _ (by omega)
          have x2 : wc.drew.cell? ⟨xb, 0, none⟩ = some (.pointer (some ⟨ob, oo, none⟩)) := HKXM.out.cell 0
          have l2 : wc.drew.cell? ⟨lb, 0, none⟩ = some (.int .i64 cg) := HKLM.out.cell 0
          clear hif
          go_upto_region 21 with fail
          refine wp_region_held_drew (S := fun W => W.cell? ⟨xb, 0, none⟩ = some (.pointer (some ⟨ob, oo, none⟩)) ∧ W.cell? ⟨lb, 0, none⟩ = some (.int .i64 cg) ∧ True ∧ True) (by kernel_rfl) ⟨x2, l2, trivial, trivial⟩ (fun hHeld => ?_)
          refine held_take 0 (v := ?_) (by simp) (by kernel_rfl) (by kernel_rfl) (by kernel_rfl) (fun _ _ _ h => h) (Or.inl ⟨by rfl, ?_⟩) hHeld ?_
          case refine_2 => (intro w hSw; (try dsimp only at hSw); (try (obtain ⟨s0, s1, s2, s3⟩ := hSw)); simp only [List.getElem_cons_zero]; go_simp <;> with_reducible rfl)
          simp only [List.getElem_cons_zero, Act.put, List.setIfInBounds_toArray, List.set_cons_zero, List.set_cons_succ]
          refine held_take 1 (v := ?_) (by simp) (by kernel_rfl) (by kernel_rfl) (by kernel_rfl) (fun _ _ _ h => h) (Or.inl ⟨by rfl, ?_⟩) hHeld ?_
          case refine_2 => (intro w hSw; (try dsimp only at hSw); (try (obtain ⟨s0, s1, s2, s3⟩ := hSw)); simp only [List.getElem_cons_zero, List.getElem_cons_succ]; go_simp <;> with_reducible rfl)
          simp only [List.getElem_cons_zero, List.getElem_cons_succ, Act.put, List.setIfInBounds_toArray, List.set_cons_zero, List.set_cons_succ]
          refine held_take 3 (v := ?_) (by simp) (by kernel_rfl) (by kernel_rfl) (by kernel_rfl) (fun _ _ _ h => h) (Or.inl ⟨by rfl, ?_⟩) hHeld ?_
          case refine_2 => (intro w hSw; (try dsimp only at hSw); (try (obtain ⟨s0, s1, s2, s3⟩ := hSw)); simp only [List.getElem_cons_zero, List.getElem_cons_succ]; go_simp <;> with_reducible rfl)
          simp only [List.getElem_cons_zero, List.getElem_cons_succ, Act.put, List.setIfInBounds_toArray, List.set_cons_zero, List.set_cons_succ]
          refine held_sole 2 (by simp) (by kernel_rfl) (fun K hK => ?_)
          simp only [List.getElem_cons_zero, List.getElem_cons_succ]
          go_simp
          refine (HLO.out wc.drew HBM.out.drew).mono ?_
          rintro e w8 ⟨rfl, hb8⟩
          have hbd : Below wc.heap.size wc w8 := (Below.refl _ wc).drew.trans hb8
          have HBD := Lib.hid hbd
          have hs8 := hbd.size
          have x3 : w8.cell? ⟨xb, 0, none⟩ = some (.pointer (some ⟨ob, oo, none⟩)) := (HKXM.out.below hbd HKXM.out.lt).cell 0
          have l3 : w8.cell? ⟨lb, 0, none⟩ = some (.int .i64 cg) := (HKLM.out.below hbd HKLM.out.lt).cell 0
          clear hb8 hbd x2 l2
          refine hK.out _ _ ⟨x3, l3, trivial, trivial⟩ (fun hHeld => ?_)
          clear hK K
          try simp only [Act.put, List.setIfInBounds_toArray, List.set_cons_zero, List.set_cons_succ]
          refine held_take 4 (v := ?_) (by simp) (by kernel_rfl) (by kernel_rfl) (by kernel_rfl) (fun _ _ _ h => h) (Or.inl ⟨by rfl, ?_⟩) hHeld ?_
          case refine_2 => (intro w hSw; (try dsimp only at hSw); (try (obtain ⟨s0, s1, s2, s3⟩ := hSw)); simp only [List.getElem_cons_zero, List.getElem_cons_succ]; go_simp <;> with_reducible rfl)
          simp only [List.getElem_cons_zero, List.getElem_cons_succ, Act.put, List.setIfInBounds_toArray, List.set_cons_zero, List.set_cons_succ]
          refine held_take 5 (v := ?_) (by simp) (by kernel_rfl) (by kernel_rfl) (by kernel_rfl) (fun _ _ _ h => h) (Or.inl ⟨by rfl, ?_⟩) hHeld ?_
          case refine_2 => (intro w hSw; (try dsimp only at hSw); (try (obtain ⟨s0, s1, s2, s3⟩ := hSw)); simp only [List.getElem_cons_zero, List.getElem_cons_succ]; go_simp <;> with_reducible rfl)
          simp only [List.getElem_cons_zero, List.getElem_cons_succ, Act.put, List.setIfInBounds_toArray, List.set_cons_zero, List.set_cons_succ]
          refine held_take 6 (v := ?_) (by simp) (by kernel_rfl) (by kernel_rfl) (by kernel_rfl) (fun _ _ _ h => h) (Or.inl ⟨by rfl, ?_⟩) hHeld ?_
          case refine_2 => (intro w hSw; (try dsimp only at hSw); (try (obtain ⟨s0, s1, s2, s3⟩ := hSw)); simp only [List.getElem_cons_zero, List.getElem_cons_succ]; go_simp <;> with_reducible rfl)
          simp only [List.getElem_cons_zero, List.getElem_cons_succ, Act.put, List.setIfInBounds_toArray, List.set_cons_zero, List.set_cons_succ]
          refine wpAnyH_done (by kernel_rfl) ?_ _
          clear hHeld
          have hMW : SegM w8 (fun x => G x ∨ F x ∨ x = w.heap.size ∨ x = xb ∨ x = lb) ⟨ob, oo, none⟩ s := (HML.out.keep (by omega) (fun q hq => ((HBD.out.block q (by have := HFW6.out q hq; omega)).trans (HBM.out.block q (by have := HFW6.out q hq; omega))))).mono (fun x hx => .inr (.inl hx))
          have hC8 : Below w0.heap.size w0 w8 := HCM.out.trans (HBD.out.mono (by omega))
          have hjv : JActV w8 (fun x => G x ∨ F x ∨ x = w.heap.size ∨ x = xb ∨ x = lb) gj g (.func (.func 61) #[] #[.pointer (some ⟨w.heap.size, 0, none⟩), .pointer (some ⟨xb, 0, none⟩), .pointer (some ⟨lb, 0, none⟩)]) (.cut (jName s.k) cg) := .inr ⟨w.heap.size, xb, lb, ⟨ob, oo, none⟩, s, rfl, ⟨.inr (.inr (.inl rfl)), .inr (.inr (.inr (.inl rfl))), .inr (.inr (.inr (.inr rfl)))⟩, (HX0.out.below hC8 hxl).cell 0, x3, l3, by omega, hMW, rfl⟩
          have HJV := Lib.hid hjv
          have HC8 := Lib.hid hC8
          have hbF : Below w8.heap.size w8 (w8.alloc (.cells #[.func (.func 61) #[] #[.pointer (some ⟨w.heap.size, 0, none⟩), .pointer (some ⟨xb, 0, none⟩), .pointer (some ⟨lb, 0, none⟩)]] 98)) := (Below.refl _ w8).alloc (Nat.le_refl _) _
          have hsF := hbF.size
          have HBF := Lib.hid hbF
          have HAF := Lib.hid ((HAM.out.below HBD.out).below hbF)
          have HRA := Lib.hid (rd_lit w8 98 [.func (.func 61) #[] #[.pointer (some ⟨w.heap.size, 0, none⟩), .pointer (some ⟨xb, 0, none⟩), .pointer (some ⟨lb, 0, none⟩)]])
          obtain ⟨Ad, cd, hdv, _, _, _⟩ := HAF.out.own.shape
          subst hdv
          have HOWN := Lib.hid HAF.out.own
          clear hMW hC8 hjv hbF x3 l3
          go_wp2_with (at_builtin; go_must (refine wpList_append_any rfl (.tmp 128) (.tmp 130) 110 rfl w0.heap.size 98 .nilFunc 8 Tryz.underlying110 info_fnJ rfl _ _ rfl HOWN.out (w8.heap.size + 1) (some ⟨w8.heap.size, 0, none⟩) 1 1 [.func (.func 61) #[] #[.pointer (some ⟨w.heap.size, 0, none⟩), .pointer (some ⟨xb, 0, none⟩), .pointer (some ⟨lb, 0, none⟩)]] rfl rfl HRA.out (by simp [Value.oneCell']) (by unfold maxLen; omega) (by omega) (by omega) ?_; intro vq wq hownq hgq hfq; have HOQ := Lib.hid hownq; have HGQ := Lib.hid hgq; have HFQ := Lib.hid hfq; clear hownq hgq hfq))
          go_meet
          have hbwF : Below wc.heap.size wc (w8.alloc (.cells #[.func (.func 61) #[] #[.pointer (some ⟨w.heap.size, 0, none⟩), .pointer (some ⟨xb, 0, none⟩), .pointer (some ⟨lb, 0, none⟩)]] 98)) := HBD.out.trans (HBF.out.mono (by omega))
          have hkx := HKXM.out.below hbwF HKXM.out.lt
          have hkl := HKLM.out.below hbwF HKLM.out.lt
          have hka := HKAM.out.below hbwF HKAM.out.lt
          have hsw := HSWM.out.below (fun q hq => by have := HFW6.out q hq; omega) hbwF
          have hrw := Own.below HRWM.out hbwF (Nat.le_refl _)
          have hnX := own_ne_blk HOWN.out hkx (by decide)
          have hnL := own_ne_blk HOWN.out hkl (by decide)
          have hnA := own_ne_blk HOWN.out hka (by decide)
          have hnC := own_ne_blk HOWN.out hsw.blk (by decide)
          have hsq := HGQ.out.size
          refine ⟨vq, vs ++ [.func (.func 61) #[] #[.pointer (some ⟨w.heap.size, 0, none⟩), .pointer (some ⟨xb, 0, none⟩), .pointer (some ⟨lb, 0, none⟩)]], fun x => G x ∨ F x ∨ x = w.heap.size ∨ x = xb ∨ x = lb, by rw [HIF1.out], rfl, by simp; omega, by omega, Lib.hid ((HC8.out.trans (HBF.out.mono (by omega))).grown HGQ.out (by omega) (fun r hr => (HOWN.out.lt r hr).1)), Lib.hid (hka.grown HGQ.out (fun e => hnA e.symm)), Lib.hid (hkx.grown HGQ.out (fun e => hnX e.symm)), Lib.hid (hsw.keep hsq (fun q hq => HGQ.out.block q (by have := HFW6.out q hq; omega) (fun e => by have := (HOWN.out.lt q e.symm).1; have := HFL.out q hq; omega)) HGQ.out (fun e => hnC e) (jrow_type_ne hsw.ents HOWN.out (by decide)) (jrow_type_ne hsw.ends HOWN.out (by decide))), Lib.hid ?_, Lib.hid (fun x hx => ?_), Lib.hid (Own.kept hrw HGQ.out (jrow_type_ne hrw HOWN.out (by decide)))⟩
          ·rw [HIF2.out]
           refine ActsS.pushes (bl := [.cut (jName s.k) cg]) HAF.out rfl (fun i h1 h2 => ?_) (by simp [Value.oneCell']) (fun x hx => .inl hx) (fun x hx => ?_) (fun r hr hx => ?_) HGQ.out HFQ.out HOQ.out
           ·obtain rfl : i = 0 := by simp at h1; exact h1
            exact HJV.out.keep HBF.out.size (fun x hx => HBF.out.block x (by
             rcases hx with hx | hx | hx | hx | hx
             ·have := HGS.out x hx; omega
             ·have := HFW6.out x hx; omega
             ·omega
             ·omega
             ·omega))
           ·rcases hx with hx | hx | hx | hx | hx
            ·have := HGS.out x hx; omega
            ·have := HFW6.out x hx; omega
            ·omega
            ·omega
            ·omega
           ·rcases hx with hx | hx | hx | hx | hx
            ·exact HAF.out.apart r hr hx
            ·have := (HOWN.out.lt r hr).1; have := HFL.out r hx; omega
            ·have := (HOWN.out.lt r hr).1; omega
            ·rw [hx] at hr; exact hnX hr
            ·rw [hx] at hr; exact hnL hr
          ·have hrw1 := fun e => (HRWM.out.lt x e).1
           rcases hx with hx | hx | hx | hx | hx
           ·exact ⟨.inr (by have := HGL.out x hx; omega), .inl ⟨HGS.out x hx, fun e => HRG.out x e hx⟩⟩
           ·exact ⟨.inl hx, .inl ⟨by have := HFL.out x hx; omega, fun e => by have := hrw1 e; have := HFL.out x hx; omega⟩⟩
           ·exact ⟨.inr (by omega), .inl ⟨by omega, fun e => by have := hrw1 e; omega⟩⟩
           ·exact ⟨.inr (by omega), .inr (.inl hx)⟩
           ·exact ⟨.inr (by omega), .inr (.inr hx)⟩
         ·go_wp2_with fail
          go_meet
          exact ⟨_, vs, G, by rw [if_neg (by omega), Int.add_zero], rfl, by omega, hsm, HCM, HKAM, HKXM, HSWM, Lib.hid (by rw [if_neg (by omega), List.append_nil]; exact HAM.out), Lib.hid (fun x hx => ⟨.inr (by have := HGL.out x hx; omega), .inl ⟨HGS.out x hx, fun e => HRG.out x e hx⟩⟩), HRWM⟩
        case rest =>
         obtain ⟨dv1, vs1, G1, h8, h9, hvl1, hsz1, HC1, HKA1, HKX1, HSW1, HA1, HG1, HRW1⟩ := hcut
         subst h8
         have h9b := h9.symm
         clear h9
         subst h9b
         clear HCM HAM HRWM HKAM HKXM HKLM HSWM HBM
         obtain ⟨fr, hfr⟩ : ∃ x, x = f1 + if cg < og then og - cg else 0 := ⟨_, rfl⟩
         have hfrb : 0 ≤ fr ∧ fr ≤ 6000000000000000000 := by
          rw [hfr]
          split <;> omega
         have HFRE := Lib.hid hfr
         rw [← hfr]
         have hao : ao = 0 := by
          rcases Own.whole HRW1.out with ⟨h, _⟩ | ⟨g', cap, cur, h, _⟩
          ·injection h with h _ _; cases h
          ·injection h with h _ _
           injection h with h
           injection h with _ h _
         subst hao
         obtain ⟨cur, hcur, hcsz⟩ : ∃ cur, Blk wc ab 108 cur ∧ N ≤ cur.size := by
          rcases Own.whole HRW1.out with ⟨h, _⟩ | ⟨g', cap, cur, h, _, _, hg, h4, _, h5, _⟩
          ·injection h with h _ _; cases h
          ·injection h with h _ _
           injection h with h
           injection h with h1 _ _
           rw [List.length_map, List.length_take, HADS.out, Nat.min_eq_left hNn] at h4
           exact ⟨cur, by rw [h1]; exact hg, by omega⟩
         have hcs0 := HC1.out.size
         have hrwl := HRW1.out.lt ab rfl
         have zr : wc.frozen? ⟨ab, m1, none⟩ = false := hcur.frozen _
         have rr : wc.cell? ⟨ab, m1, none⟩ = some (cur[m1]'(by omega)) := (hcur.cell m1).trans (Array.getElem?_eq_getElem _)
         have hgs := grown_setCell wc ab m1 (.pointer (some ⟨cb, 0, none⟩))
         obtain ⟨w9, hw9⟩ : ∃ W, W = wc.setCell ⟨ab, m1, none⟩ (.pointer (some ⟨cb, 0, none⟩)) := ⟨_, rfl⟩
         have hrow9 : Own w9 w0.heap.size 108 (.slice (some ⟨ab, 0, none⟩) N c4) ((ads.take m1 ++ ([⟨cb, 0, none⟩] : List Addr)).map fun a => Value.pointer (some a)) := by
          have hlen : ((ads.take N).map fun a => Value.pointer (some a)).length = N := by rw [List.length_map, List.length_take, HADS.out, Nat.min_eq_left hNn]
          have h1 := HRW1.out
          unfold Own at h1 ⊢
          rw [hlen] at h1
          have h2 := row_set (i := m1) h1 (.pointer (some ⟨cb, 0, none⟩))
          rw [← hw9] at h2
          have hN1 : N = m1 + 1 := by have := HM1.out; omega
          have e : ((ads.take N).map fun a => Value.pointer (some a)).set m1 (.pointer (some ⟨cb, 0, none⟩)) = (ads.take m1 ++ ([⟨cb, 0, none⟩] : List Addr)).map fun a => Value.pointer (some a) := by
           rw [hN1, List.take_add_one, List.getElem?_eq_getElem hma, List.map_append, List.map_append, List.set_append_right _ _ (by rw [List.length_map, List.length_take]; omega)]
           rw [List.length_map, List.length_take, Nat.min_eq_left (by omega), Nat.sub_self]
           rfl
          rw [e] at h2
          have hlen2 : ((ads.take m1 ++ ([⟨cb, 0, none⟩] : List Addr)).map fun a => Value.pointer (some a)).length = N := by rw [List.length_map, List.length_append, List.length_take, Nat.min_eq_left (by omega)]; simp; omega
          rw [hlen2]
          exact h2
         rw [← hw9] at hgs
         have hnS := own_ne_blk HRW1.out HKA1.out (by decide)
         have HR9 := Lib.hid hrow9
         have HC9 := Lib.hid (HC1.out.grown hgs (by omega) (fun r hr => by injection hr with hr; omega))
         have HKA9 := Lib.hid (HKA1.out.grown hgs (fun e => hnS e.symm))
         have HKX9 := Lib.hid (HKX1.out.grown hgs (by have := HRS.out ab rfl; intro e; injection e with e; omega))
         have HSW9 := Lib.hid (HSW1.out.keep hgs.size (fun q hq => hgs.block q (by have := HFW6.out q hq; omega) (fun e => by injection e with e; have := HFL.out q hq; omega)) hgs (fun e => by injection e with e; have := HRS.out ab rfl; omega) (jrow_type_ne HSW1.out.ents HRW1.out (by decide)) (jrow_type_ne HSW1.out.ends HRW1.out (by decide)))
         have HA9 := Lib.hid (HA1.out.other hgs (jrow_type_ne HA1.out.own HRW1.out (by decide)) (fun r hr hx => by
          injection hr with hr
          subst hr
          have h1 := HRS.out ab rfl
          rcases (HG1.out ab hx).2 with h2 | h2 | h2
          ·exact h2.2 rfl
          ·omega
          ·omega))
         have HW9 := Lib.hid hw9
         have hs9 := hgs.size
         clear hfr hcur hgs hw9 hrow9 hnS HKA1 HKX1 HSW1 HA1 HRW1 HC1
         go_upto_region 24 with fail
         rw [← HW9.out]
         clear HW9 zr rr
         have HBW9 := Lib.hid (HB0.out.trans (HC9.out.mono hs0))
         have hM9 := HM.out.keep HBW9.out.size (fun q hq => HBW9.out.block q (HFL.out q hq))
         obtain ⟨ob', oo', _, _, _, _, _, hab', _, hltb', d0, _⟩ := hM9.rd.cells
         injection hab' with e1 e2 _
         subst e1 e2
         obtain ⟨sk, hske⟩ : ∃ x, x = s.k := ⟨_, rfl⟩
         rw [← hske] at d0 hkm
         have hwk : IntKind.i64.wrap (sk + 1) = sk + 1 := IntWalk.i64_in _ (by omega)
         have HSK := Lib.hid hske
         have x9 : w9.cell? ⟨xb, 0, none⟩ = some (.pointer (some ⟨ob, oo, none⟩)) := HKX9.out.cell 0
         have s90 : w9.cell? ⟨sb, 0, none⟩ = some (.int .i64 1) := HKA9.out.cell 0
         have z90 : w9.frozen? ⟨sb, 0, none⟩ = false := HKA9.out.frozen _
         have hgt := grown_setCell w9 sb 0 (.int .i64 (sk + 1))
         obtain ⟨wT, hwT⟩ : ∃ W, W = w9.setCell ⟨sb, 0, none⟩ (.int .i64 (sk + 1)) := ⟨_, rfl⟩
         have HKAT : Hid (Blk wT sb 104 #[.int .i64 (sk + 1), .int .i64 ix, .int .i64 0, .slice none 0 0, .slice none 0 0]) := Lib.hid (by rw [hwT]; exact HKA9.out.set_ 0 _)
         rw [← hwT] at hgt
         have hnR := own_ne_blk HR9.out HKA9.out (by decide)
         have HRT := Lib.hid (Own.kept HR9.out hgt (.inr hnR))
         have HCT2 := Lib.hid (HC9.out.grown hgt (by omega) (fun r hr => by injection hr with hr; omega))
         have HSWT := Lib.hid (HSW9.out.keep hgt.size (fun q hq => hgt.block q (by have := HFW6.out q hq; omega) (fun e => by injection e with e; have := HFL.out q hq; omega)) hgt (fun e => by injection e with e; omega) (.inr (own_ne_blk HSW9.out.ents HKA9.out (by decide))) (.inr (own_ne_blk HSW9.out.ends HKA9.out (by decide))))
         have HAT := Lib.hid (HA9.out.other hgt (.inr (own_ne_blk HA9.out.own HKA9.out (by decide))) (fun r hr hx => by
          injection hr with hr
          subst hr
          rcases (HG1.out sb hx).2 with h2 | h2 | h2
          ·omega
          ·omega
          ·omega))
         have HWT := Lib.hid hwT
         have hsT := hgt.size
         have HLA : Hid (Calls Tryz.prog 62 #[.pointer (some ⟨cb, 0, none⟩)] wT fun e w' => e = .returned (.tuple #[.int .i64 c.last.1, .int .i64 c.last.2]) ∧ Below wT.heap.size wT w') := Lib.hid ((HSWT.out.rd HCB.out).last (by omega))
         obtain ⟨cl1, hcl1⟩ : ∃ x, x = c.last.1 := ⟨_, rfl⟩
         obtain ⟨cl2, hcl2⟩ : ∃ x, x = c.last.2 := ⟨_, rfl⟩
         rw [← hcl1, ← hcl2] at HLA
         have HCL2 := Lib.hid hcl2
         clear hske hM9 hgt hwT hnR hcl1 hcl2 HKX9 HKA9 HSW9 HA9 HR9 HC9 hltb'
         go_upto_region 25 with fail
         rw [← HWT.out]
         clear HWT s90 z90 d0 x9
         go_wp2_with fail
         refine HLA.out.mono ?_
         rintro e w10 ⟨rfl, hb10⟩
         have hs10 := hb10.size
         have HK10 := Lib.hid (HKAT.out.below hb10 HKAT.out.lt)
         have s2 : w10.cell? ⟨sb, 2, none⟩ = some (.int .i64 0) := HK10.out.cell 2
         have z2 : w10.frozen? ⟨sb, 2, none⟩ = false := HK10.out.frozen _
         have HB10 := Lib.hid hb10
         clear hb10 HLA
         go_wp2_with fail
         go_meet
         have hg11 := grown_setCell w10 sb 2 (.int .i64 cl2)
         have hrow := Own.below HRT.out HB10.out (Nat.le_refl _)
         have hact := HAT.out.below HB10.out
         have hsw := HSWT.out.below (fun q hq => by have := HFW6.out q hq; omega) HB10.out
         have hgn : ∀ x, (sb ≤ x ∧ x ≠ xb ∧ x ≠ lb) → ¬ G1 x := fun x hx h => by
          rcases (HG1.out x h).2 with h2 | h2 | h2
          ·omega
          ·exact hx.2.1 h2
          ·exact hx.2.2 h2
         refine ⟨_, vs1, G1, ads.take m1 ++ ([⟨cb, 0, none⟩] : List Addr), sk + 1, cl2, fr, ((goneK j N).map (fun x => JAct.rm (jName x.k)) ++ if cg < og then [.cut (jName s.k) cg] else []), rfl, rfl, hvl1, Lib.hid ⟨(HCT2.out.trans (HB10.out.mono (by omega))).grown hg11 (by omega) (fun r hr => by injection hr with hr; omega), HK10.out.set_ 2 _, Own.kept hrow hg11 (.inr (own_ne_blk hrow HK10.out (by decide))), hact.other hg11 (.inr (own_ne_blk hact.own HK10.out (by decide))) (fun r hr hx => by injection hr with hr; subst hr; exact hgn sb ⟨Nat.le_refl _, by omega, by omega⟩ hx), fun x hx => (HG1.out x hx).1, ⟨hgn sb ⟨Nat.le_refl _, by omega, by omega⟩, fun r hr hx => ?_⟩, ⟨by omega, by rw [HCL2.out]; exact last_num HCB.out, by omega, by omega⟩, .inr ⟨m1, s, c, cb, rsC, vlC, veC, by have := HM1.out; omega, ⟨hml, HSS.out⟩, HCC.out, rfl, (hsw.keep hg11.size (fun q hq => hg11.block q (by have := HFW6.out q hq; omega) (fun e => by injection e with e; have := HFL.out q hq; omega)) hg11 (fun e => by injection e with e; omega) (.inr (own_ne_blk hsw.ents HK10.out (by decide))) (.inr (own_ne_blk hsw.ends HK10.out (by decide)))).lower (by omega), by rw [HSK.out], HCL2.out, ?_, ?_, ⟨HCB.out, HCE.out, by omega, HCT.out⟩, by omega, hgn cb ⟨by omega, by omega, by omega⟩, fun r hr => hgn r (by have := HVC.out.1 r hr; omega), fun r hr => hgn r (by have := HVC.out.2 r hr; omega)⟩⟩⟩
         ·have h1 := HRS.out r hr
          rcases (HG1.out r hx).2 with h2 | h2 | h2
          ·exact h2.2 hr
          ·omega
          ·omega
         ·rw [HFRE.out, HF1.out, HCG.out, HOG.out]
          rfl
         ·rw [HCG.out, HOG.out]
          rfl
     case rest =>
      obtain ⟨dv1, vs1, G1, adK, fk, ft, fr, al, h8, h9, hvl1, HCR⟩ := hcut
      subst h8
      have h9b := h9.symm
      clear h9
      subst h9b
      clear HKA HCA HAA HRWA HRG HRS HGS hsA
      have hcz := HCR.out.below.size
      have HBWC := Lib.hid (HB0.out.trans (HCR.out.below.mono hs0))
      have hFc : ∀ q, F q → q < wc.heap.size := fun q hq => by have := HFL.out q hq; omega
      have HFC := Lib.hid hFc
      clear hFc
      obtain ⟨nb, hnb⟩ : ∃ b, b = newB j ix N := ⟨_, rfl⟩
      have HNB := Lib.hid hnb
      clear hnb
      go_upto_region 27 with fail
      go_cut [163] from 153 to 163 (fun c163 wx => c163 = .bool nb ∧ wc.heap.size ≤ wx.heap.size ∧ Hid (CutRel wx w0 F j ix ads N w.heap.size w0.heap.size sb gj g (.slice A4 N c4) dv1 vs1 G1 adK fk ft fr al))
      case first =>
       rcases HCR.out.kind with ⟨k1, k8⟩ | ⟨m1, s, c2, cb, rsC, vlC, veC, k1, ⟨k2, k3⟩, k4, k5, k6, k8, k9, k10, k11, k7, k12⟩
       ·have hz : ((N : Int) == 0) = true := by rw [k1]; rfl
        have hb : nb = true := by rw [HNB.out, k1]; rfl
        subst hb
        clear k1 k8
        go_wp2_with fail
        go_meet
        exact ⟨rfl, Nat.le_refl _, HCR⟩
       ·have hz : ((N : Int) == 0) = false := beq_eq_false_iff_ne.2 (by omega)
        have hb : nb = decide (600 ≤ c2.long) := by rw [HNB.out, k1, newB_some k2, k4, k3]
        have hma : m1 < ads.length := by rw [HADS.out]; omega
        obtain ⟨ab, ao, e5, _, hal, hac⟩ := (RdF.of_own (F := fun _ => True) HCR.out.row (fun _ _ _ => trivial)) (by rw [k5]; simp)
        subst e5
        have r0 : wc.cell? ⟨ab, ao + m1, none⟩ = some (.pointer (some ⟨cb, 0, none⟩)) := hac m1 _ (by
         rw [k5, List.map_append, List.getElem?_append_right (by rw [List.length_map, List.length_take]; omega), List.length_map, List.length_take, Nat.min_eq_left (by omega), Nat.sub_self]
         rfl)
        have hsub : (N : Int) - 1 = (m1 : Int) := by omega
        have hwm : IntKind.i64.wrap (m1 : Int) = (m1 : Int) := IntWalk.i64_in _ (by omega)
        have hmn : m1 < N := by omega
        have hmn2 : (m1 : Int) < (N : Int) := by omega
        have hM := k6.segM k7.1 k7.2.1 (by have := k7.2.2.1; omega) k7.2.2.2
        obtain ⟨cg, hcg⟩ : ∃ x, x = c2.long := ⟨_, rfl⟩
        have HLN : Hid (Calls Tryz.prog 56 #[.pointer (some ⟨cb, 0, none⟩)] wc fun e w' => e = .returned (.int .i64 cg) ∧ Below wc.heap.size wc w') := Lib.hid (by rw [hcg]; exact hM.long)
        rw [← hcg] at hb
        have HB := Lib.hid hb
        clear hb hcg hM k1 k3 k4 k5 k6 k7 k8 k9 k10 k11 k12 hac hma
        go_wp2_with fail
        refine HLN.out.mono ?_
        rintro e w5 ⟨rfl, hb5⟩
        have hs5 := hb5.size
        have HC5 := Lib.hid (HCR.out.below2 HFC.out hb5 hcz)
        clear hb5 HLN r0
        go_wp2_with fail
        go_meet
        exact ⟨by rw [HB.out], hs5, HC5⟩
      case rest =>
       obtain ⟨rfl, hcz2, HCR2⟩ := hcut
       clear HCR
       have hcz3 : w0.heap.size ≤ wc.heap.size := HCR2.out.below.size
       have HBWC2 := Lib.hid (HB0.out.trans (HCR2.out.below.mono hs0))
       have HFC2 := Lib.hid (show ∀ q, F q → q < wc.heap.size from fun q hq => by have := HFL.out q hq; omega)
       have HFRS : Hid (fr ≤ sizes d.fs) := Lib.hid (by
        refine Int.le_trans ?_ HSUM.out
        rcases HCR2.out.kind with ⟨k1, _, _, _, k5, _⟩ | ⟨m1, s, c2, cb, rsC, vlC, veC, k1, ⟨k2, k3⟩, k4, _, _, _, _, k10, _, k7, _⟩
        ·rw [k5, k1, freedK_sum]; simp
        ·rw [k10, k1, k3]
         exact freed_le k2 (fun s hs => (HLONG.out s hs).2.1) (k7.1.ends _ (lastD_mem (fun e => by have := k7.2.1; rw [e] at this; simp at this))).1)
       have HFR0 := Lib.hid (HCR2.out.num.2.2.1)
       have HCOST : Hid (costs al = 0) := Lib.hid (by
        rcases HCR2.out.kind with ⟨_, _, _, _, _, k6⟩ | ⟨m1, s, c2, cb, rsC, vlC, veC, _, _, _, _, _, _, _, _, k11, _⟩
        ·rw [k6, costs_rms]
        ·rw [k11, costs_append, costs_rms, costs_cut])
       go_upto_if 163 with fail
       go_cut [10, 15] from 153 to 175 (fun c10 c15 wx => ∃ (A5 : Option Addr) (c5 : Nat) (adsP : List Addr) (ssP : List SegP) (FP : Nat → Prop) (tb : Nat) (s0 : SegP) (rsT : List EntR) (vl ve bv : Value) (bh : List UInt8), c10 = .slice A5 (adsP.length + 1) c5 ∧ c15 = bv ∧ adsP.length ≤ nl ∧ bh.length ≤ 1048600 ∧ (s0.l.length ≤ 100000000 ∧ s0.long ≤ 1000000000000) ∧ Hid (Below w0.heap.size w0 wx) ∧ Hid (SaveMid wx F w.heap.size w0.heap.size gj g (.slice A5 (adsP.length + 1) c5) dv1 vs1 G1 al adsP ssP FP tb s0 rsT vl ve bv bh) ∧ Hid (saveR j d l ix = saveF j d l al fr ssP s0 bh))
       case first =>
        cases nb with
        | false =>
         rcases HCR2.out.kind with ⟨k1, k8⟩ | ⟨m1, s, c2, cb, rsC, vlC, veC, k1, ⟨k2, k3⟩, k4, k5, k6, k8, k9, k10, k11, k7, k12⟩
         ·have := HNB.out
          rw [k1] at this
          cases this
         ·have hnn : ¬ 600 ≤ c2.long := by
           have h1 := HNB.out
           rw [k1, newB_some k2, ← k3, ← k4] at h1
           exact of_decide_eq_false h1.symm
          have hma : m1 < ads.length := by rw [HADS.out]; omega
          have hlen : (ads.take m1).length = m1 := by rw [List.length_take]; omega
          have htk : j.segs.take N = j.segs.take m1 ++ [s] := by rw [k1, List.take_add_one, List.getElem?_eq_getElem k2, ← k3]; rfl
          have hsv := saveR_old (d := d) (l := l) (by rw [← HNL.out]; exact HN.out) htk k4 hnn
          rw [← k10, ← k11] at hsv
          have hsk := HKS.out s (by rw [k3]; exact List.getElem_mem k2)
          have hmid : SaveMid wc F w.heap.size w0.heap.size gj g (.slice A4 N c4) dv1 vs1 G1 al (ads.take m1) (j.segs.take m1) F cb c2 rsC vlC veC (.slice none 0 0) [] := by
           refine ⟨HCR2.out.acts, by rw [← k5]; exact HCR2.out.row, by rw [List.length_take, List.length_take, HADS.out, ← HNL.out], fun i h1 h2 => ?_, fun x hx => ⟨HFC2.out x hx, .inl hx⟩, HCR2.out.gl, k6, ⟨⟨none, 0, rfl, Nat.le_refl _, by omega, Rd.none_⟩, .inl rfl⟩, fun x hx => ?_, ⟨k7.1, k7.2.1, by have := k7.2.2.1; omega, k7.2.2.2, by rw [k4]; show 1 ≤ s.k ∧ s.k ≤ _; omega⟩⟩
           ·rw [List.getElem_take, List.getElem_take]
            exact (HS5.out i (by rw [List.length_take] at h1; omega) (by rw [List.length_take] at h2; omega)).keep HBWC2.out.size (fun q hq => HBWC2.out.block q (HFL.out q hq))
           ·have hF0 : w0.heap.size ≤ x → ¬ F x := fun h hf => by have := HFL.out x hf; omega
            rcases hx with hx | hx | hx | hx | hx | hx
            ·exact ⟨HCR2.out.gs.2 x hx, hF0 (HCR2.out.row.lt x hx).1⟩
            ·rw [hx]; exact ⟨k12.2.1, fun hf => by have := HFL.out cb hf; have := k6.low; omega⟩
            ·exact ⟨k12.2.2.1 x hx, hF0 (World.ownsRow.lt k6.ents x hx).1⟩
            ·exact ⟨k12.2.2.2 x hx, hF0 (World.ownsRow.lt k6.ends x hx).1⟩
            ·cases hx
            ·exact ⟨HCR2.out.acts.apart x hx, hF0 (HCR2.out.acts.own.lt x hx).1⟩
          have HMID := Lib.hid hmid
          have HSV2 := Lib.hid hsv
          have hc2l : c2.l.length ≤ 100000000 ∧ c2.long ≤ 1000000000000 := by
           have h1 : c2.long ∈ c2.ends := lastD_mem (fun e => by have := k7.2.1; rw [e] at this; simp at this)
           rw [k4] at h1
           have h2 := (HENDS.out s (by rw [k3]; exact List.getElem_mem k2)).2 _ (List.mem_of_mem_take h1)
           rw [← k4] at h2
           exact ⟨k7.2.2.1, h2.2⟩
          have HLEN := Lib.hid (show (ads.take m1).length + 1 = N by omega)
          have hml : m1 ≤ nl := by omega
          clear k1 k2 k3 k4 k5 k6 k7 k8 k9 k10 k11 k12 hnn hma hlen htk hsv hsk hmid
          go_wp2_with fail
          go_meet
          exact ⟨A4, c4, ads.take m1, j.segs.take m1, F, cb, c2, rsC, vlC, veC, .slice none 0 0, [], by rw [HLEN.out], rfl, by rw [List.length_take]; omega, by simp, hc2l, Lib.hid HCR2.out.below, Lib.hid (by rw [HLEN.out]; exact HMID.out), HSV2⟩
        | true =>
         have hkb := HCR2.out.fresh.lt
         have hnm := HCR2.out.num
         have HHE := Lib.hid (jhead_any sb 0 ix ft (by omega) hnm.2.1 wc (HCR2.out.fresh.cell 1) (HCR2.out.fresh.cell 2) hkb)
         obtain ⟨hd, hhd⟩ : ∃ x, x = jHead ix ft := ⟨_, rfl⟩
         have HHD := Lib.hid hhd
         have hhl : hd.length ≤ 1048600 := by
          rw [hhd]
          refine closeS_lenJ ?_
          have h1 : (encI ix).length ≤ 10 := by
           unfold encI
           split
           ·simp
           ·exact enc_len _ (by omega)
          have h2 : (numsS [ft]).length ≤ 10 := numsS_len (z := [ft]) (by intro n hn; obtain rfl := List.mem_singleton.1 hn; exact hnm.2.1)
          rw [List.length_append]
          omega
         clear hhd
         go_wp2_with fail
         refine HHE.out.mono ?_
         rintro e w6 ⟨v6, rfl, hg6, hb6⟩
         rw [← HHD.out] at hg6
         obtain ⟨A6, c6, hv6, p1, p2, _⟩ := hg6.shape
         subst hv6
         have HG6 := Lib.hid hg6
         have hs6 := hb6.size
         have HCR6 := Lib.hid (HCR2.out.below2 HFC2.out hb6 hcz3)
         have hk6 := HCR6.out.fresh
         obtain ⟨wI, hwI⟩ : ∃ W, W = w6.setCell ⟨sb, 4, none⟩ (.slice (some ⟨w6.heap.size, 0, none⟩) 1 1) := ⟨_, rfl⟩
         have hgI := grown_setCell w6 sb 4 (.slice (some ⟨w6.heap.size, 0, none⟩) 1 1)
         have hkI : Blk wI sb 104 #[.int .i64 fk, .int .i64 ix, .int .i64 ft, .slice none 0 0, .slice (some ⟨w6.heap.size, 0, none⟩) 1 1] := by rw [hwI]; exact hk6.set_ 4 _
         have hszI : wI.heap.size = w6.heap.size := by rw [hwI]; simp
         rw [← hwI] at hgI
         obtain ⟨w7, hw7⟩ : ∃ W, W = wI.alloc (.cells #[.int .i64 hd.length] 3) := ⟨_, rfl⟩
         have hbI : Below wI.heap.size wI w7 := by rw [hw7]; exact (Below.refl _ wI).alloc (Nat.le_refl _) _
         have HOI : Hid (w7.ownsRow w6.heap.size 3 1 (.slice (some ⟨w6.heap.size, 0, none⟩) 1 1) 1 [.int .i64 hd.length]) := Lib.hid (by
          rw [hw7, ← hszI]
          exact World.ownsRow_lit wI #[.int .i64 hd.length] 1 (Nat.le_refl _) (by decide) rfl)
         have sI : w6.cell? ⟨sb, 4, none⟩ = some (.slice none 0 0) := hk6.cell 4
         have zI : w6.frozen? ⟨sb, 4, none⟩ = false := hk6.frozen 4
         have HW7 := Lib.hid (show w7 = (w6.setCell ⟨sb, 4, none⟩ (.slice (some ⟨w6.heap.size, 0, none⟩) 1 1)).alloc (.cells #[.int .i64 hd.length] 3) by rw [hw7, hwI])
         have hs7 : w6.heap.size ≤ w7.heap.size := by have := hbI.size; omega
         have hnb7 : ∀ q, q ≠ sb → q < w6.heap.size → w7.heap[q]? = w6.heap[q]? := fun q h1 h2 => (hbI.block q (by omega)).trans (hgI.block q h2 (fun e => by injection e with e; exact h1 e))
         have HK7 := Lib.hid (hkI.below hbI hkI.lt)
         have HROW7 := Lib.hid (Own.below (Own.kept HCR6.out.row hgI (.inr (own_ne_blk HCR6.out.row hk6 (by decide)))) hbI (Nat.le_refl _))
         have HACT7 := Lib.hid ((HCR6.out.acts.other hgI (.inr (own_ne_blk HCR6.out.acts.own hk6 (by decide))) (fun r hr hx => by injection hr with hr; subst hr; exact HCR6.out.gs.1 hx)).below hbI)
         have HG7 := Lib.hid (HG6.out.kept (fun q hq => hnb7 q (by have := HG6.out.row.base q hq; omega) (HG6.out.row.lt q hq)) hs7)
         have HB7 := Lib.hid ((HCR6.out.below.grown hgI (by omega) (fun r hr => by injection hr with hr; rw [← hr]; exact hsbl)).trans (hbI.mono (by omega)))
         have HNB7 := Lib.hid hnb7
         have hsb6 := HCR6.out.fresh.lt
         clear hg6 hb6 hk6 hwI hbI hkI hw7 hgI hnb7 HG6 HHE hnm hszI
         go_upto_region 30 with fail
         rw [← HW7.out]
         clear HW7 sI zI
         have hwG : Below w7.heap.size w7 (w7.alloc (.cells #[.pointer (some ⟨sb, 0, none⟩)] 108)) := (Below.refl _ w7).alloc (Nat.le_refl _) _
         have hsG := hwG.size
         have HWG := Lib.hid hwG
         have HROWG := Lib.hid (Own.below HROW7.out hwG (Nat.le_refl _))
         have HRB := Lib.hid (rd_lit w7 108 [.pointer (some ⟨sb, 0, none⟩)])
         have hadl : (adK.map fun a => Value.pointer (some a)).length = N := by
          rcases HCR2.out.kind with ⟨k1, k2, _⟩ | ⟨m1, s, c2, cb, rsC, vlC, veC, k1, ⟨k2, _⟩, _, k5, _⟩
          ·rw [k2, k1]; rfl
          ·rw [k5, List.length_map, List.length_append, List.length_take, HADS.out, k1]
           have : m1 < nl := by rw [HNL.out]; exact k2
           simp
           omega
         have HADL := Lib.hid hadl
         obtain ⟨rl, hrle⟩ : ∃ x, x = (adK.map fun a => Value.pointer (some a)).length := ⟨_, rfl⟩
         clear hadl hwG
         go_wp2_with (at_builtin; go_must (refine wpList_append_any rfl (.tmp 172) (.tmp 174) 49 rfl w0.heap.size 108 (.pointer none) 8 Tryz.underlying49 info_segp rfl _ _ rfl HROWG.out (w7.heap.size + 1) (some ⟨w7.heap.size, 0, none⟩) 1 1 [.pointer (some ⟨sb, 0, none⟩)] rfl rfl HRB.out (by simp [Value.oneCell']) (by rw [HADL.out]; unfold maxLen; omega) (by rw [HADL.out]; omega) (by omega) ?_; intro v14 w14 hown14 hg14 hf14; have HO14 := Lib.hid hown14; have HG14 := Lib.hid hg14; have HF14 := Lib.hid hf14; clear hown14 hg14 hf14))
         go_meet
         obtain ⟨A14, c14, hv14, _⟩ := HO14.out.shape
         have hl14 : (adK.map (fun a => Value.pointer (some a)) ++ [Value.pointer (some ⟨sb, 0, none⟩)]).length = adK.length + 1 := by simp
         rw [hl14] at hv14
         have hs14 := HG14.out.size
         have hkG := HK7.out.below HWG.out HK7.out.lt
         have hnR := own_ne_blk HROWG.out hkG (by decide)
         have hoG := World.ownsRow.kept HOI.out (grown_of_below HWG.out none) (.inr (by simp [Value.ownBlock]))
         have ho14 := World.ownsRow.kept hoG HG14.out (jrow_type_ne hoG HROWG.out (by decide))
         have htgt : SegW w14 F w0.heap.size sb ⟨fk, ix, ft, [], [(hd.length : Int)]⟩ [] (.slice none 0 0) (.slice (some ⟨w6.heap.size, 0, none⟩) 1 1) := ⟨hkG.grown HG14.out (fun e => hnR e.symm), hsbl, World.ownsRow_nil _ _ _ _, rfl, (fun q hq => by cases hq), own_low ho14 (by omega)⟩
         have haG := HACT7.out.below HWG.out
         have hact := haG.other HG14.out (jrow_type_ne haG.own HROWG.out (by decide)) (fun r hr => HCR6.out.gs.2 r hr)
         have hgG := HG7.out.below HWG.out (Nat.le_refl _)
         have hnBv : ∀ x, (Value.slice A6 hd.length c6).ownBlock = some x → wc.heap.size ≤ x ∧ x < w7.heap.size ∧ ∃ cs, Blk (w7.alloc (.cells #[.pointer (some ⟨sb, 0, none⟩)] 108)) x 5 cs := fun x hx => by
          refine ⟨HG7.out.row.base x hx, HG7.out.row.lt x hx, ?_⟩
          rcases hgG.row with h1 | ⟨g', _, _, cur, h1, _, hB, _⟩
          ·rw [h1] at hx; cases hx
          ·rw [h1] at hx
           injection hx with hx
           subst hx
           exact ⟨_, hB⟩
         have hbyt := (hgG.kept (fun q hq => HG14.out.block q (hgG.row.lt q hq) (fun e => by
          obtain ⟨_, _, cs, hB⟩ := hnBv q hq
          exact own_ne_blk HROWG.out hB (by decide) e.symm)) HG14.out.size).mono (by omega : w0.heap.size ≤ wc.heap.size)
         have hGw : ∀ x, G1 x → x < wc.heap.size := HCR2.out.acts.lt
         have hGrow : ∀ x, v14.ownBlock = some x → ((Value.slice A4 N c4).ownBlock = some x) ∨ (w7.alloc (.cells #[.pointer (some ⟨sb, 0, none⟩)] 108)).heap.size ≤ x := fun x hx => by
          rcases HF14.out with e | ⟨q, e, hq⟩
          ·exact .inl (e ▸ hx)
          ·rw [hx] at e
           injection e with e
           exact .inr (by omega)
         have hnum : SegB ⟨fk, ix, ft, [], [(hd.length : Int)]⟩ := ⟨by have := HCR2.out.num.1; show -9223372036854775808 ≤ fk ∧ fk ≤ 9223372036854775807; omega, hix0, HCR2.out.num.2.1, (fun e he => by cases he), fun x hx => by rw [List.mem_singleton.1 hx]; omega⟩
         have hgl : ∀ x, G1 x → F x ∨ w.heap.size ≤ x := HCR2.out.gl
         have hB14 : Below w0.heap.size w0 w14 := (HB7.out.trans (HWG.out.mono (by omega))).grown HG14.out (by omega) (fun r hr => (HROWG.out.lt r hr).1)
         have hFlt : ∀ x, F x → x < w.heap.size := HFL.out
         have hdvl := HCR2.out.acts.own.lt
         have hwrG : ∀ x, v14.ownBlock = some x ∨ x = sb ∨ (Value.slice none 0 0).ownBlock = some x ∨ (Value.slice (some ⟨w6.heap.size, 0, none⟩) 1 1).ownBlock = some x ∨ (Value.slice A6 hd.length c6).ownBlock = some x ∨ dv1.ownBlock = some x → ¬ G1 x ∧ w0.heap.size ≤ x := fun x hx => by
          rcases hx with hx | hx | hx | hx | hx | hx
          ·rcases hGrow x hx with h1 | h1
           ·exact ⟨HCR2.out.gs.2 x h1, (HCR2.out.row.lt x h1).1⟩
           ·exact ⟨fun h => by have := hGw x h; omega, by omega⟩
          ·rw [hx]; exact ⟨HCR2.out.gs.1, hsbl⟩
          ·cases hx
          ·have hx2 : w6.heap.size = x := by simpa [Value.ownBlock] using hx
           exact ⟨fun h => by have := hGw x h; omega, by omega⟩
          ·exact ⟨fun h => by have := hGw x h; have := (hnBv x hx).1; omega, by have := (hnBv x hx).1; omega⟩
          ·exact ⟨HCR2.out.acts.apart x hx, (hdvl x hx).1⟩
         rcases HCR6.out.kind with ⟨k1, k2, k3, k4, k5, k6⟩ | ⟨m1, s, c2, cb, rsC, vlC, veC, k1, ⟨k2, k3⟩, k4, k5, k6, k8, k9, k10, k11, k7, k12⟩
         ·refine ⟨A14, c14, [], [], F, sb, ⟨fk, ix, ft, [], [(hd.length : Int)]⟩, [], .slice none 0 0, .slice (some ⟨w6.heap.size, 0, none⟩) 1 1, .slice A6 hd.length c6, hd, by rw [hv14, k2] <;> rfl, rfl, by simp, hhl, ⟨by simp, by show (hd.length : Int) ≤ _; omega⟩, Lib.hid hB14, Lib.hid ⟨hact, ?_, rfl, fun i h1 h2 => by simp at h1, fun x hx => ⟨by have := hFlt x hx; omega, .inl hx⟩, hgl, htgt, hbyt, fun x hx => ?_, ⟨hnum, rfl, by simp, (fun e he => by cases he), HCR2.out.num.1⟩⟩, Lib.hid ?_⟩
          ·have h1 := HO14.out
           rw [hv14, k2] at h1
           exact h1
          ·rw [show (Value.slice A14 (([] : List Addr).length + 1) c14) = v14 by rw [hv14, k2]] at hx
           have h1 := hwrG x hx
           exact ⟨h1.1, fun hf => by have := hFlt x hf; omega⟩
          ·have h1 := saveR_none (d := d) (l := l) (by rw [← HNL.out]; exact HN.out) (show j.segs.take N = [] by rw [k1]; rfl)
           rw [h1, k6, k5, HHD.out, k3, k4]
         ·have hnn : 600 ≤ c2.long := by
           have h1 := HNB.out
           rw [k1, newB_some k2, ← k3, ← k4] at h1
           exact of_decide_eq_true h1.symm
          have hma : m1 < ads.length := by rw [HADS.out]; omega
          have htk : j.segs.take N = j.segs.take m1 ++ [s] := by rw [k1, List.take_add_one, List.getElem?_eq_getElem k2, ← k3]; rfl
          have hsv := saveR_new (d := d) (l := l) (by rw [← HNL.out]; exact HN.out) htk k4 hnn
          rw [← k10, ← k11, ← k8, ← k9, ← HHD.out] at hsv
          have hsw7 := k6.keepB hs7 (fun x hx => by
           rcases hx with hx | hx | hx | hx
           ·exact HNB7.out x (by have := hFlt x hx; omega) (by have := hFlt x hx; omega)
           ·rw [hx]; exact HNB7.out cb (by have := k12.1; omega) k6.blk.lt
           ·exact HNB7.out x (fun e => own_ne_blk k6.ents HCR6.out.fresh (by decide) (e ▸ hx)) (World.ownsRow.lt k6.ents x hx).2
           ·exact HNB7.out x (fun e => own_ne_blk k6.ends HCR6.out.fresh (by decide) (e ▸ hx)) (World.ownsRow.lt k6.ends x hx).2)
          have hswG := hsw7.below (fun q hq => by have := hFlt q hq; omega) HWG.out
          have hsw14 := hswG.keep HG14.out.size (fun q hq => HG14.out.block q (by have := hFlt q hq; omega) (fun e => by have := (HROWG.out.lt q e.symm).1; have := hFlt q hq; omega)) HG14.out (fun e => own_ne_blk HROWG.out hswG.blk (by decide) e) (jrow_type_ne hswG.ents HROWG.out (by decide)) (jrow_type_ne hswG.ends HROWG.out (by decide))
          have hM14 := hsw14.segMx k7.1 k7.2.1 (by have := k7.2.2.1; omega) k7.2.2.2
          have hall : adK.length = N := by have := HADL.out; rwa [List.length_map] at this
          have hcase : ∀ x, (v14.ownBlock = some x ∨ x = sb ∨ (Value.slice none 0 0).ownBlock = some x ∨ (Value.slice (some ⟨w6.heap.size, 0, none⟩) 1 1).ownBlock = some x ∨ (Value.slice A6 hd.length c6).ownBlock = some x ∨ dv1.ownBlock = some x) → x ≠ cb ∧ vlC.ownBlock ≠ some x ∧ veC.ownBlock ≠ some x := fun x hx => by
           have hl1 := k6.blk.lt
           have hl2 := fun e => (World.ownsRow.lt k6.ents x e).2
           have hl3 := fun e => (World.ownsRow.lt k6.ends x e).2
           rcases hx with hx | hx | hx | hx | hx | hx
           ·rcases hGrow x hx with h1 | h1
            ·refine ⟨fun e => own_ne_blk HROWG.out hswG.blk (by decide) (e ▸ h1), fun e => ?_, fun e => ?_⟩
             ·rcases jrow_type_ne hswG.ents HROWG.out (by decide) with h2 | h2
              ·rw [h2] at e; cases e
              ·exact h2 (e.trans h1.symm)
             ·rcases jrow_type_ne hswG.ends HROWG.out (by decide) with h2 | h2
              ·rw [h2] at e; cases e
              ·exact h2 (e.trans h1.symm)
            ·exact ⟨by omega, fun e => by have := hl2 e; omega, fun e => by have := hl3 e; omega⟩
           ·subst hx
            exact ⟨by have := k12.1; omega, own_ne_blk k6.ents HCR6.out.fresh (by decide), own_ne_blk k6.ends HCR6.out.fresh (by decide)⟩
           ·cases hx
           ·have hx2 : w6.heap.size = x := by simpa [Value.ownBlock] using hx
            exact ⟨by omega, fun e => by have := hl2 e; omega, fun e => by have := hl3 e; omega⟩
           ·obtain ⟨_, _, cs, hB⟩ := hnBv x hx
            exact ⟨fun e => by subst e; exact blk_ne hB hswG.blk (by decide) rfl, own_ne_blk hswG.ents hB (by decide), own_ne_blk hswG.ends hB (by decide)⟩
           ·refine ⟨fun e => own_ne_blk haG.own hswG.blk (by decide) (e ▸ hx), fun e => ?_, fun e => ?_⟩
            ·rcases jrow_type_ne hswG.ents haG.own (by decide) with h2 | h2
             ·rw [h2] at e; cases e
             ·exact h2 (e.trans hx.symm)
            ·rcases jrow_type_ne hswG.ends haG.own (by decide) with h2 | h2
             ·rw [h2] at e; cases e
             ·exact h2 (e.trans hx.symm)
          have hBW14 := HB0.out.trans (hB14.mono hs0)
          refine ⟨A14, c14, adK, j.segs.take m1 ++ [c2], fun x => F x ∨ x = cb ∨ vlC.ownBlock = some x ∨ veC.ownBlock = some x, sb, ⟨fk, ix, ft, [], [(hd.length : Int)]⟩, [], .slice none 0 0, .slice (some ⟨w6.heap.size, 0, none⟩) 1 1, .slice A6 hd.length c6, hd, hv14, rfl, by omega, hhl, ⟨by simp, by show (hd.length : Int) ≤ _; omega⟩, Lib.hid hB14, Lib.hid ⟨hact, ?_, ?_, fun i h1 h2 => ?_, fun x hx => ?_, hgl, htgt, hbyt, fun x hx => ?_, ⟨hnum, rfl, by simp, (fun e he => by cases he), HCR2.out.num.1⟩⟩, Lib.hid hsv⟩
          ·have h1 := HO14.out
           rw [hv14] at h1
           rw [List.map_append]
           exact h1
          ·rw [hall, k1, List.length_append, List.length_take]; simp; omega
          ·by_cases hi : i < m1
           ·have e1 : adK[i] = ads[i]'(by omega) := by
             simp only [k5]
             rw [List.getElem_append_left (by rw [List.length_take]; omega), List.getElem_take]
            have e2 : (j.segs.take m1 ++ [c2])[i] = j.segs[i]'(by omega) := by
             rw [List.getElem_append_left (by rw [List.length_take]; omega), List.getElem_take]
            rw [e1, e2]
            exact ((HS5.out i (by omega) (by omega)).keep hBW14.size (fun q hq => hBW14.block q (hFlt q hq))).mono (fun x hx => .inl hx)
           ·have ei : i = m1 := by omega
            subst ei
            have e1 : adK[i] = (⟨cb, 0, none⟩ : Addr) := by
             simp only [k5]
             rw [List.getElem_append_right (by rw [List.length_take]; omega)]
             simp
            have e2 : (j.segs.take i ++ [c2])[i] = c2 := by
             rw [List.getElem_append_right (by rw [List.length_take]; omega)]
             simp
            rw [e1, e2]
            exact hM14
          ·rcases hx with hx | hx | hx | hx
           ·exact ⟨by have := hFlt x hx; have := hBW14.size; omega, .inl hx⟩
           ·rw [hx]; exact ⟨hsw14.blk.lt, .inr hsw14.low⟩
           ·exact ⟨(World.ownsRow.lt hsw14.ents x hx).2, .inr (World.ownsRow.lt hsw14.ents x hx).1⟩
           ·exact ⟨(World.ownsRow.lt hsw14.ends x hx).2, .inr (World.ownsRow.lt hsw14.ends x hx).1⟩
          ·rw [← hv14] at hx
           have h1 := hwrG x hx
           have h2 := hcase x hx
           refine ⟨h1.1, ?_⟩
           rintro (h3 | h3 | h3 | h3)
           ·have := hFlt x h3; omega
           ·exact h2.1 h3
           ·exact h2.2.1 h3
           ·exact h2.2.2 h3
       case rest =>
        obtain ⟨A5, c5, adsP, ssP, FP, tb, s0, rsT, vl, ve, bv, bh, h10, h15, hpl, hbl, ⟨hs0l, hs0g⟩, HC, HMID, HSV2⟩ := hcut
        subst h10
        have h15b := h15.symm
        clear h15
        subst h15b
        clear HCR2 HFC2 HBWC2
        have hsc := HC.out.size
        have HBWM := Lib.hid (HB0.out.trans (HC.out.mono hs0))
        obtain ⟨mp, hmp⟩ : ∃ x, x = adsP.length := ⟨_, rfl⟩
        have HMP := Lib.hid hmp
        rw [← hmp] at HMID hpl ⊢
        obtain ⟨ab, ao, e5, _, hal, hac⟩ := (RdF.of_own (F := fun _ => True) HMID.out.row (fun _ _ _ => trivial)) (by simp)
        subst e5
        have r0 : wc.cell? ⟨ab, ao + mp, none⟩ = some (.pointer (some ⟨tb, 0, none⟩)) := hac mp _ (by
         rw [List.map_append, List.getElem?_append_right (by rw [List.length_map, hmp]; exact Nat.le_refl _), List.length_map, hmp, Nat.sub_self]
         rfl)
        have hcst : ((mp + 1 : Nat) : Int) - 1 = (mp : Int) := by omega
        have hcst2 : (mp : Int) + 1 - 1 = (mp : Int) := by omega
        have hwm : IntKind.i64.wrap (mp : Int) = (mp : Int) := IntWalk.i64_in _ (by omega)
        have hmn : mp < mp + 1 := by omega
        have hmn2 : (mp : Int) < (mp : Int) + 1 := by omega
        have kE : ∀ q, E q → wc.heap[q]? = w.heap[q]? := fun q hq => HBWM.out.block q (HEL.out q hq)
        have HCO := Lib.hid (jcopied_any (some ⟨eb, eo, none⟩) rs ce wc (HRE.out.keep HBWM.out.size kE) (fun q hq => (HDE.out q hq).keep HBWM.out.size kE) (fun q hq => by have := HEL.out q hq; have := HBWM.out.size; omega) (by omega) (fun q hq => by have := may_short HMJ.out.symm q.e (by rw [HLL.out]; exact List.mem_map.2 ⟨q, hq, rfl⟩); omega))
        clear hac hmp kE
        go_wp2_with fail
        refine HCO.out.mono ?_
        rintro e wq ⟨vq, rs', rfl, hown, hmap, hbs, hbq⟩
        obtain ⟨Aq, cq, hvq, kq1, kq2, _⟩ := jrow_shape hown
        subst hvq
        have hrl' : rs'.length = rs.length := by have := congrArg List.length hmap; simpa using this
        have hsq := hbq.size
        obtain ⟨D, hD⟩ : ∃ D : Nat → Prop, D = fun x => wc.heap.size ≤ x ∧ x < wq.heap.size := ⟨_, rfl⟩
        have HDD : Hid (∀ x, D x ↔ wc.heap.size ≤ x ∧ x < wq.heap.size) := Lib.hid (fun x => by rw [hD])
        have HFLC : Hid (∀ q, F q → q < wc.heap.size) := Lib.hid (fun q hq => by have := HFL.out q hq; have := HBWM.out.size; omega)
        have HRQ := Lib.hid (RdF.of_row (F := D) hown (fun k h1 h2 => (HDD.out k).2 ⟨h1, h2⟩) (by rw [erCells_len]; omega))
        have HDQ : Hid (∀ q ∈ rs', DatF wq D q.v q.e.b) := Lib.hid (fun q hq => by
         have h1 := hbs q hq
         obtain ⟨A1, c1, e1, k1, k2, _⟩ := bs_shape h1
         rw [e1] at h1
         exact ⟨A1, c1, e1, k1, k2, RdF.of_own h1 (fun k h2 h3 => (HDD.out k).2 ⟨h2, h3⟩)⟩)
        have HMQ := Lib.hid ((HMID.out.below2 HFLC.out hbq).monoF (F' := fun x => F x ∨ D x) (fun q hq => .inl hq))
        have HMAP : Hid (rs'.map EntR.e = l) := Lib.hid (by rw [HLL.out]; exact hmap)
        have HLW := Lib.hid HMID.out.wrlt
        have HGL := Lib.hid HMID.out.gl
        have HNE : Hid (∀ e ∈ l, ((-9223372036854775808 ≤ e.ix ∧ e.ix ≤ 9223372036854775807) ∧ (-9223372036854775808 ≤ e.tm ∧ e.tm ≤ 9223372036854775807) ∧ (-9223372036854775808 ≤ e.kd ∧ e.kd ≤ 9223372036854775807)) ∧ e.b.length ≤ 65535) := Lib.hid (fun e he => by
         have h1 := may_short HMJ.out.symm e he
         rw [HLL.out] at he
         obtain ⟨q, hq, rfl⟩ := List.mem_map.1 he
         exact ⟨HNUM.out q hq, h1⟩)
        have HCQ := Lib.hid (HC.out.trans (hbq.mono hsc))
        have hll : l.length = rs.length := by rw [HLL.out, List.length_map]
        have HFLAT : Hid (∀ k, ((l.take k).map jPiece).flatten.length ≤ 1000000000) := Lib.hid (fun k => by
         have h1 : (l.map jPiece).flatten.length = ((l.take k).map jPiece).flatten.length + ((l.drop k).map jPiece).flatten.length := by
          rw [← List.length_append, ← List.flatten_append, ← List.map_append, List.take_append_drop]
         omega)
        clear hown hmap hbs hbq hD HMID HCO hfl HC
        go_wp2_with fail
        go_loopw [185, 15, 18, 19] (fun i bvv _ _ wr => ∃ (k : Nat) (rsk : List EntR) (vlk vek bvk : Value), k ≤ rs.length ∧ i = .int .i64 k ∧ bvv = bvk ∧ Hid (Below w0.heap.size w0 wr) ∧ Hid (wq.heap.size ≤ wr.heap.size ∧ ∀ x, D x → wr.heap[x]? = wq.heap[x]?) ∧ Hid (SaveMid wr (fun x => F x ∨ D x) w.heap.size w0.heap.size gj g (.slice (some ⟨ab, ao, none⟩) (mp + 1) c5) dv1 vs1 G1 al adsP ssP FP tb (addEnts s0 (l.take k)) rsk vlk vek bvk (bh ++ ((l.take k).map jPiece).flatten)) ∧ Hid (∀ x, x = tb ∨ vlk.ownBlock = some x ∨ vek.ownBlock = some x ∨ bvk.ownBlock = some x → x < wc.heap.size ∨ wq.heap.size ≤ x)) (fun i _ _ _ _ => rs.length - (intOf i).toNat)
        case atStart => exact ⟨0, rsT, vl, ve, bv, by omega, rfl, rfl, HCQ, Lib.hid ⟨Nat.le_refl _, fun _ _ => rfl⟩, Lib.hid (by simpa [addEnts] using HMQ.out), Lib.hid (fun x hx => .inl (HLW.out x (by rcases hx with h | h | h | h; exact .inr (.inl h); exact .inr (.inr (.inl h)); exact .inr (.inr (.inr (.inl h))); exact .inr (.inr (.inr (.inr (.inl h)))))).2)⟩
        case round =>
         obtain ⟨k, rsk, vlk, vek, bvk, hk, rfl, hbv, HB, HD2, HM, HW⟩ := hrel
         have hbv2 := hbv.symm
         clear hbv
         subst hbv2
         clear HMQ HCQ
         have hsr := HB.out.size
         have hqr := HD2.out.1
         have HBWR := Lib.hid (HB0.out.trans (HB.out.mono hs0))
         have HFDR : Hid (∀ q, (F q ∨ D q) → q < wr.heap.size) := Lib.hid (fun q hq => by
          rcases hq with hq | hq
          ·have := HFLC.out q hq; omega
          ·have := ((HDD.out q).1 hq).2; omega)
         by_cases hlt : k < rs.length
         ·have hlt' : k < rs'.length := by omega
          obtain ⟨qb, qo, hAq, hDb, hqlt, hqc⟩ := HRQ.out (by rw [erCells_len]; omega)
          subst hAq
          have kD : wr.heap[qb]? = wq.heap[qb]? := HD2.out.2 qb hDb
          obtain ⟨q, hq⟩ : ∃ q, q = rs'[k] := ⟨_, rfl⟩
          have hqm : q ∈ rs' := by rw [hq]; exact List.getElem_mem hlt'
          have hqe : l[k]? = some q.e := by rw [← HMAP.out, List.getElem?_map, List.getElem?_eq_getElem hlt', hq]; rfl
          have hqn := HNE.out q.e (List.mem_of_getElem? hqe)
          have HDAT := Lib.hid (HDQ.out q hqm)
          obtain ⟨Av, cv, hqv, hv1, hv2, hv3⟩ := HDQ.out q hqm
          have hc4 : ∀ j u, (erOne q)[j]? = some u → j < 4 → wr.cell? ⟨qb, qo + k * 4 + j, none⟩ = some u := fun j u hu hj => (World.cell?_of_block kD).trans (by
           have := hqc (k * 4 + j) u (by rw [erCells_at rs' hlt' hj, ← hq]; exact hu)
           rwa [← Nat.add_assoc] at this)
          have htk : l.take (k + 1) = l.take k ++ [q.e] := by rw [List.take_add_one, hqe]; rfl
          obtain ⟨qv, ⟨ix1, tm1, kd1, qd⟩⟩ := q
          have hqv' : qv = .slice Av qd.length cv := hqv
          subst hqv'
          have hc0 : wr.cell? ⟨qb, qo + k * 4, none⟩ = some (.int .i64 ix1) := hc4 0 (.int .i64 ix1) rfl (by omega)
          have hc1 : wr.cell? ⟨qb, qo + k * 4 + 1, none⟩ = some (.int .i64 tm1) := hc4 1 (.int .i64 tm1) rfl (by omega)
          have hc2 : wr.cell? ⟨qb, qo + k * 4 + 2, none⟩ = some (.int .i64 kd1) := hc4 2 (.int .i64 kd1) rfl (by omega)
          have hc3 : wr.cell? ⟨qb, qo + k * 4 + 3, none⟩ = some (.slice Av qd.length cv) := hc4 3 (.slice Av qd.length cv) rfl (by omega)
          have HTK := Lib.hid htk
          have HQN := Lib.hid hqn
          have hqdl : qd.length ≤ 65535 := hqn.2
          have HV3 : Hid (RdF wq D Av (cells qd)) := Lib.hid hv3
          obtain ⟨wE, hwE⟩ : ∃ W, W = wr.alloc (.cells #[.int .i64 ix1, .int .i64 tm1, .int .i64 kd1, .slice Av qd.length cv] 65) := ⟨_, rfl⟩
          have hbE : Below wr.heap.size wr wE := by rw [hwE]; exact (Below.refl _ wr).alloc (Nat.le_refl _) _
          have hkE : Blk wE wr.heap.size 65 #[.int .i64 ix1, .int .i64 tm1, .int .i64 kd1, .slice Av qd.length cv] := by rw [hwE]; exact Blk.new wr _ _
          have hsE := hbE.size
          have HWE := Lib.hid hwE
          have HBE := Lib.hid hbE
          have HKE := Lib.hid hkE
          have hklt := hkE.lt
          clear hc4 kD hqc hq hqm hqe hqn htk hqv hv3 hwE hbE hkE hDb hqlt
          go_upto_region 35 with fail
          rw [← HWE.out]
          have e0 : wE.cell? ⟨wr.heap.size, 0, none⟩ = some (.int .i64 ix1) := HKE.out.cell 0
          have e1 : wE.cell? ⟨wr.heap.size, 1, none⟩ = some (.int .i64 tm1) := HKE.out.cell 1
          have e2 : wE.cell? ⟨wr.heap.size, 2, none⟩ = some (.int .i64 kd1) := HKE.out.cell 2
          have e3 : wE.cell? ⟨wr.heap.size, 3, none⟩ = some (.slice Av qd.length cv) := HKE.out.cell 3
          have HDE : Hid (RdF wE D Av (cells qd)) := Lib.hid (HV3.out.keep (by omega) (fun x hx => (HBE.out.block x (by have := ((HDD.out x).1 hx).2; omega)).trans (HD2.out.2 x hx)))
          obtain ⟨pp, hpp⟩ : ∃ p, p = jPiece ⟨ix1, tm1, kd1, qd⟩ := ⟨_, rfl⟩
          have HPP := Lib.hid hpp
          have HPC : Hid (Calls Tryz.prog 65 #[.agg #[.int .i64 ix1, .int .i64 tm1, .int .i64 kd1, .slice Av qd.length cv]] wE fun e w' => ∃ v, e = .returned v ∧ Got w' wE.heap.size v pp ∧ Below wE.heap.size wE w') := Lib.hid (by rw [hpp]; exact jpiece_any Av ⟨ix1, tm1, kd1, qd⟩ cv wE HDE.out.rd (by simp only; omega) HQN.out.1.2.1 HQN.out.1.2.2)
          obtain ⟨bk, hbk⟩ : ∃ b, b = bh ++ ((l.take k).map jPiece).flatten := ⟨_, rfl⟩
          have HBK := Lib.hid hbk
          have hbkl : bk.length + pp.length ≤ 1001048600 := by
           have h := HFLAT.out (k + 1)
           rw [HTK.out, List.map_append, List.flatten_append, List.length_append] at h
           have h2 : (([⟨ix1, tm1, kd1, qd⟩] : List EntP).map jPiece).flatten.length = pp.length := by rw [hpp]; simp
           have h3 : (List.map jPiece [(EntR.e { v := Value.slice Av qd.length cv, e := { ix := ix1, tm := tm1, kd := kd1, b := qd } })]).flatten.length = pp.length := h2
           rw [h3] at h
           rw [hbk, List.length_append]
           omega
          have hskl : (addEnts s0 (l.take k)).l.length ≤ 102000000 := by
           rw [(addEnts_len (l.take k) s0).1, List.length_append, List.length_take]
           omega
          have hrskl : rsk.length ≤ 102000000 := by
           have h := congrArg List.length HM.out.tgt.map
           rw [List.length_map] at h
           omega
          have hskg : (addEnts s0 (l.take k)).long ≤ 1001000000000 := by
           rw [addEnts_long]
           have := HFLAT.out k
           omega
          have HSKM : Hid (addEnts s0 (l.take (k + 1)) = { addEnts s0 (l.take k) with l := (addEnts s0 (l.take k)).l ++ [⟨ix1, tm1, kd1, qd⟩], ends := (addEnts s0 (l.take k)).ends ++ [(addEnts s0 (l.take k)).long + (pp.length : Int)] }) := Lib.hid (by rw [HTK.out, addEnts_snoc, hpp])
          have HBK2 : Hid (bh ++ ((l.take (k + 1)).map jPiece).flatten = bk ++ pp) := Lib.hid (by rw [HTK.out, hbk, hpp, List.map_append, List.flatten_append, List.append_assoc]; simp)
          obtain ⟨sk, hsk⟩ : ∃ s, s = addEnts s0 (l.take k) := ⟨_, rfl⟩
          rw [← hsk] at HM HSKM hskl hskg
          rw [← hbk] at HM
          clear hsk hbk hpp
          obtain ⟨Al', cl', hvl, _⟩ := jrow_shape HM.out.tgt.ents
          subst hvl
          obtain ⟨Ae', ce', hve, _⟩ := Own.shape HM.out.tgt.ends
          rw [List.length_map] at hve
          subst hve
          obtain ⟨Ab', cb', hvb, _⟩ := HM.out.bytes.shape
          subst hvb
          clear hc0 hc1 hc2 hc3
          go_wp2_with fail
          refine HPC.out.mono ?_
          rintro e w5 ⟨v5, rfl, hg5, hb5⟩
          obtain ⟨A5', c5', hv5, p1, p2, p3⟩ := hg5.shape
          subst hv5
          have hs5 := hb5.size
          have HM5 := Lib.hid ((HM.out.below2 HFDR.out HBE.out).below2 (fun q hq => by have := HFDR.out q hq; omega) hb5)
          have HKE5 := Lib.hid (HKE.out.below hb5 hklt)
          have HB5 := Lib.hid (HBE.out.trans (hb5.mono hsE))
          have HP3 := Lib.hid p3
          clear hg5 hb5 HPC e0 e1 e2 e3 p3 HKE HDE
          go_upto_region 37 with (at_builtin; go_must (refine wpList_append_gotq rfl (.tmp 191) (.tmp 192) rfl w0.heap.size _ bk rfl HM5.out.bytes w5.heap.size A5' c5' pp rfl HP3.out (by omega) (by omega) ?_; intro v6 w6 hg6 hgr6 hf6; have HG6 := Lib.hid hg6; have HGR6 := Lib.hid hgr6; have HF6 := Lib.hid hf6; clear hg6 hgr6 hf6))
          have hwl := HM.out.wrlt
          have hno : ∀ q, (F q ∨ D q) → (q = tb ∨ (Value.slice Al' rsk.length cl').ownBlock = some q ∨ (Value.slice Ae' sk.ends.length ce').ownBlock = some q ∨ (Value.slice Ab' bk.length cb').ownBlock = some q) → False := fun q hq hx => by
           have h1 := HW.out q hx
           have h2 := hwl q (by rcases hx with h | h | h | h; exact .inr (.inl h); exact .inr (.inr (.inl h)); exact .inr (.inr (.inr (.inl h))); exact .inr (.inr (.inr (.inr (.inl h)))))
           rcases hq with hq | hq
           ·have := HFL.out q hq; omega
           ·have := (HDD.out q).1 hq; omega
          have HNO := Lib.hid hno
          have HWL := Lib.hid hwl
          have hs6 := HGR6.out.size
          have HM6 := Lib.hid (HM5.out.bytesG (fun q hq => ⟨by have := HFDR.out q hq; omega, fun e => HNO.out q hq (.inr (.inr (.inr e)))⟩) HGR6.out HG6.out HF6.out)
          have hkE6 := HKE5.out.grown HGR6.out (fun e => by have := (HWL.out wr.heap.size (.inr (.inr (.inr (.inr (.inl e.symm)))))).2; omega)
          have hkT6 := HM6.out.tgt.blk
          have hSK : ∀ W : World, W.cell? ⟨tb, 4, none⟩ = w6.cell? ⟨tb, 4, none⟩ → W.heap[wr.heap.size]? = w6.heap[wr.heap.size]? → W.cell? ⟨tb, 4, none⟩ = some (.slice Ae' sk.ends.length ce') ∧ W.cell? ⟨wr.heap.size, 0, none⟩ = some (.int .i64 ix1) ∧ W.cell? ⟨wr.heap.size, 1, none⟩ = some (.int .i64 tm1) ∧ W.cell? ⟨wr.heap.size, 2, none⟩ = some (.int .i64 kd1) ∧ W.cell? ⟨wr.heap.size, 3, none⟩ = some (.slice Av qd.length cv) ∧ True := fun W h1 h2 =>
           ⟨h1.trans (hkT6.cell 4), (World.cell?_of_block (w := w6) h2).trans (hkE6.cell 0), (World.cell?_of_block (w := w6) h2).trans (hkE6.cell 1), (World.cell?_of_block (w := w6) h2).trans (hkE6.cell 2), (World.cell?_of_block (w := w6) h2).trans (hkE6.cell 3), trivial⟩
          have t3 : w6.cell? ⟨tb, 3, none⟩ = some (.slice Al' rsk.length cl') := hkT6.cell 3
          have HSK := Lib.hid hSK
          have HKE6 := Lib.hid hkE6
          have HKT6 := Lib.hid hkT6
          have HB6 := Lib.hid ((HB.out.trans (HB5.out.mono hsr)).grown HGR6.out (by omega) (fun r hr => (HWL.out r (.inr (.inr (.inr (.inr (.inl hr)))))).1))
          clear hwl hno hkE6 hkT6 hSK HKE5 HM5
          refine wp_region_heldT 25 rfl (S := fun W => W.cell? ⟨tb, 4, none⟩ = some (.slice Ae' sk.ends.length ce') ∧ W.cell? ⟨wr.heap.size, 0, none⟩ = some (.int .i64 ix1) ∧ W.cell? ⟨wr.heap.size, 1, none⟩ = some (.int .i64 tm1) ∧ W.cell? ⟨wr.heap.size, 2, none⟩ = some (.int .i64 kd1) ∧ W.cell? ⟨wr.heap.size, 3, none⟩ = some (.slice Av qd.length cv) ∧ True) (HSK.out _ rfl rfl) (fun hHeld => ?_)
          refine heldT_take 0 (v := ?_) (by simp) (by kernel_rfl) (by kernel_rfl) (by kernel_rfl) (by kernel_rfl) (fun _ _ _ h => h) (Or.inl ⟨by rfl, ?_⟩) hHeld ?_
          case refine_2 => (intro w hSw; (try dsimp only at hSw); obtain ⟨s0, s1, s2, s3, s4, s5⟩ := hSw; simp only [List.getElem_cons_zero]; go_simp <;> with_reducible rfl)
          simp only [List.getElem_cons_zero, Act.put, List.setIfInBounds_toArray, List.set_cons_zero, List.set_cons_succ]
          refine heldT_take 1 (v := ?_) (by simp) (by kernel_rfl) (by kernel_rfl) (by kernel_rfl) (by kernel_rfl) (fun _ _ _ h => h) (Or.inl ⟨by rfl, ?_⟩) hHeld ?_
          case refine_2 => (intro w hSw; (try dsimp only at hSw); obtain ⟨s0, s1, s2, s3, s4, s5⟩ := hSw; simp only [List.getElem_cons_zero, List.getElem_cons_succ]; go_simp <;> with_reducible rfl)
          simp only [List.getElem_cons_zero, List.getElem_cons_succ, Act.put, List.setIfInBounds_toArray, List.set_cons_zero, List.set_cons_succ]
          refine heldT_take 2 (v := ?_) (by simp) (by kernel_rfl) (by kernel_rfl) (by kernel_rfl) (by kernel_rfl) (fun _ _ _ h => h) (Or.inl ⟨by rfl, ?_⟩) hHeld ?_
          case refine_2 => (intro w hSw; (try dsimp only at hSw); obtain ⟨s0, s1, s2, s3, s4, s5⟩ := hSw; simp only [List.getElem_cons_zero, List.getElem_cons_succ]; go_simp <;> with_reducible rfl)
          simp only [List.getElem_cons_zero, List.getElem_cons_succ, Act.put, List.setIfInBounds_toArray, List.set_cons_zero, List.set_cons_succ]
          refine heldT_take 3 (v := ?_) (by simp) (by kernel_rfl) (by kernel_rfl) (by kernel_rfl) (by kernel_rfl) (fun _ _ _ h => h) (Or.inl ⟨by rfl, ?_⟩) hHeld ?_
          case refine_2 => (intro w hSw; (try dsimp only at hSw); obtain ⟨s0, s1, s2, s3, s4, s5⟩ := hSw; simp only [List.getElem_cons_zero, List.getElem_cons_succ]; go_simp <;> with_reducible rfl)
          simp only [List.getElem_cons_zero, List.getElem_cons_succ, Act.put, List.setIfInBounds_toArray, List.set_cons_zero, List.set_cons_succ]
          refine heldT_take 4 (v := ?_) (by simp) (by kernel_rfl) (by kernel_rfl) (by kernel_rfl) (by kernel_rfl) (fun _ _ _ h => h) (Or.inl ⟨by rfl, ?_⟩) hHeld ?_
          case refine_2 => (intro w hSw; (try dsimp only at hSw); obtain ⟨s0, s1, s2, s3, s4, s5⟩ := hSw; simp only [List.getElem_cons_zero, List.getElem_cons_succ]; go_simp <;> with_reducible rfl)
          simp only [List.getElem_cons_zero, List.getElem_cons_succ, Act.put, List.setIfInBounds_toArray, List.set_cons_zero, List.set_cons_succ]
          refine heldT_take 6 (v := ?_) (by simp) (by kernel_rfl) (by kernel_rfl) (by kernel_rfl) (by kernel_rfl) (fun _ _ _ h => h) (Or.inl ⟨by rfl, ?_⟩) hHeld ?_
          case refine_2 => (intro w hSw; (try dsimp only at hSw); obtain ⟨s0, s1, s2, s3, s4, s5⟩ := hSw; simp only [List.getElem_cons_zero, List.getElem_cons_succ]; go_simp <;> with_reducible rfl)
          simp only [List.getElem_cons_zero, List.getElem_cons_succ, Act.put, List.setIfInBounds_toArray, List.set_cons_zero, List.set_cons_succ]
          refine heldT_take 9 (v := ?_) (by simp) (by kernel_rfl) (by kernel_rfl) (by kernel_rfl) (by kernel_rfl) (fun _ _ _ h => h) (Or.inl ⟨by rfl, ?_⟩) hHeld ?_
          case refine_2 => (intro w hSw; (try dsimp only at hSw); obtain ⟨s0, s1, s2, s3, s4, s5⟩ := hSw; simp only [List.getElem_cons_zero, List.getElem_cons_succ]; go_simp <;> with_reducible rfl)
          simp only [List.getElem_cons_zero, List.getElem_cons_succ, Act.put, List.setIfInBounds_toArray, List.set_cons_zero, List.set_cons_succ]
          refine heldT_take 10 (v := ?_) (by simp) (by kernel_rfl) (by kernel_rfl) (by kernel_rfl) (by kernel_rfl) (fun _ _ _ h => h) (Or.inl ⟨by rfl, ?_⟩) hHeld ?_
          case refine_2 => (intro w hSw; (try dsimp only at hSw); obtain ⟨s0, s1, s2, s3, s4, s5⟩ := hSw; simp only [List.getElem_cons_zero, List.getElem_cons_succ]; go_simp <;> with_reducible rfl)
          simp only [List.getElem_cons_zero, List.getElem_cons_succ, Act.put, List.setIfInBounds_toArray, List.set_cons_zero, List.set_cons_succ]
          refine heldT_take 11 (v := ?_) (by simp) (by kernel_rfl) (by kernel_rfl) (by kernel_rfl) (by kernel_rfl) (fun _ _ _ h => h) (Or.inl ⟨by rfl, ?_⟩) hHeld ?_
          case refine_2 => (intro w hSw; (try dsimp only at hSw); obtain ⟨s0, s1, s2, s3, s4, s5⟩ := hSw; simp only [List.getElem_cons_zero, List.getElem_cons_succ]; go_simp <;> with_reducible rfl)
          simp only [List.getElem_cons_zero, List.getElem_cons_succ, Act.put, List.setIfInBounds_toArray, List.set_cons_zero, List.set_cons_succ]
          refine heldT_take 12 (v := ?_) (by simp) (by kernel_rfl) (by kernel_rfl) (by kernel_rfl) (by kernel_rfl) (fun _ _ _ h => h) (Or.inl ⟨by rfl, ?_⟩) hHeld ?_
          case refine_2 => (intro w hSw; (try dsimp only at hSw); obtain ⟨s0, s1, s2, s3, s4, s5⟩ := hSw; simp only [List.getElem_cons_zero, List.getElem_cons_succ]; go_simp <;> with_reducible rfl)
          simp only [List.getElem_cons_zero, List.getElem_cons_succ, Act.put, List.setIfInBounds_toArray, List.set_cons_zero, List.set_cons_succ]
          refine heldT_take 13 (v := ?_) (by simp) (by kernel_rfl) (by kernel_rfl) (by kernel_rfl) (by kernel_rfl) (fun _ _ _ h => h) (Or.inl ⟨by rfl, ?_⟩) hHeld ?_
          case refine_2 => (intro w hSw; (try dsimp only at hSw); obtain ⟨s0, s1, s2, s3, s4, s5⟩ := hSw; simp only [List.getElem_cons_zero, List.getElem_cons_succ]; go_simp <;> with_reducible rfl)
          simp only [List.getElem_cons_zero, List.getElem_cons_succ, Act.put, List.setIfInBounds_toArray, List.set_cons_zero, List.set_cons_succ]
          refine heldT_take 15 (v := ?_) (by simp) (by kernel_rfl) (by kernel_rfl) (by kernel_rfl) (by kernel_rfl) (fun _ _ _ h => h) (Or.inl ⟨by rfl, ?_⟩) hHeld ?_
          case refine_2 => (intro w hSw; (try dsimp only at hSw); obtain ⟨s0, s1, s2, s3, s4, s5⟩ := hSw; simp only [List.getElem_cons_zero, List.getElem_cons_succ]; go_simp <;> with_reducible rfl)
          simp only [List.getElem_cons_zero, List.getElem_cons_succ, Act.put, List.setIfInBounds_toArray, List.set_cons_zero, List.set_cons_succ]
          refine heldT_take 16 (v := ?_) (by simp) (by kernel_rfl) (by kernel_rfl) (by kernel_rfl) (by kernel_rfl) (fun _ _ _ h => h) (Or.inl ⟨by rfl, ?_⟩) hHeld ?_
          case refine_2 => (intro w hSw; (try dsimp only at hSw); obtain ⟨s0, s1, s2, s3, s4, s5⟩ := hSw; simp only [List.getElem_cons_zero, List.getElem_cons_succ]; go_simp <;> with_reducible rfl)
          simp only [List.getElem_cons_zero, List.getElem_cons_succ, Act.put, List.setIfInBounds_toArray, List.set_cons_zero, List.set_cons_succ]
          have hbA : Below w6.heap.size w6 ((w6.alloc (.cells #[.int .i64 ix1, .int .i64 tm1, .int .i64 kd1, .slice Av qd.length cv] 65)).drew) := below_drewN ((Below.refl _ w6).alloc (Nat.le_refl _) _) 1
          have HTL := Lib.hid HKT6.out.lt
          have HEL6 := Lib.hid HKE6.out.lt
          have kTA := hbA.block tb HTL.out
          have kEA := hbA.block wr.heap.size HEL6.out
          have t3b : (w6.alloc (.cells #[.int .i64 ix1, .int .i64 tm1, .int .i64 kd1, .slice Av qd.length cv] 65)).cell? ⟨tb, 3, none⟩ = some (.slice Al' rsk.length cl') := (World.cell?_of_block (w := w6) kTA).trans t3
          have HSA := Lib.hid (HSK.out _ (World.cell?_of_block (w := w6) kTA) kEA)
          have HBA := Lib.hid hbA
          clear kTA kEA hbA
          apply share
          ·intro key
           refine heldT_two 5 7 (by simp) (by simp) (by kernel_rfl) (fun K hK => ?_) (fun K hK => ?_)
           ·simp only [List.getElem_cons_zero, List.getElem_cons_succ]
            go_simp
            refine hK _ _ (HSK.out _ rfl rfl) (fun hHeld => ?_)
            clear hK K
            try simp only [Act.put, List.setIfInBounds_toArray, List.set_cons_zero, List.set_cons_succ]
            refine heldT_sole 7 (by simp) (by kernel_rfl) (fun K hK => ?_)
            simp only [List.getElem_cons_zero, List.getElem_cons_succ]
            go_simp
            refine hK _ _ HSA.out (fun hHeld => ?_)
            clear hK K
            try simp only [Act.put, List.setIfInBounds_toArray, List.set_cons_zero, List.set_cons_succ]
            exact key
           ·simp only [List.getElem_cons_zero, List.getElem_cons_succ]
            go_simp
            refine hK _ _ HSA.out (fun hHeld => ?_)
            clear hK K
            try simp only [Act.put, List.setIfInBounds_toArray, List.set_cons_zero, List.set_cons_succ]
            refine heldT_sole 5 (by simp) (by kernel_rfl) (fun K hK => ?_)
            simp only [List.getElem_cons_zero, List.getElem_cons_succ]
            go_simp
            refine hK _ _ HSA.out (fun hHeld => ?_)
            clear hK K
            try simp only [Act.put, List.setIfInBounds_toArray, List.set_cons_zero, List.set_cons_succ]
            exact key
          ·clear t3 t3b
           obtain ⟨w7, hw7⟩ : ∃ W, W = (w6.alloc (.cells #[.int .i64 ix1, .int .i64 tm1, .int .i64 kd1, .slice Av qd.length cv] 65)).drew := ⟨_, rfl⟩
           have hHeld := HSA.out
           rw [← hw7] at hHeld ⊢
           have HB7 : Hid (Below w6.heap.size w6 w7) := Lib.hid (by rw [hw7]; exact HBA.out)
           have hc7 : ∀ j u, [Value.int .i64 ix1, Value.int .i64 tm1, Value.int .i64 kd1, Value.slice Av qd.length cv][j]? = some u → w7.cell? ((⟨w6.heap.size, 0, none⟩ : Addr).add j) = some u := by
            rw [hw7]
            obtain ⟨ad, e1, _, h2⟩ := rd_lit w6 65 [Value.int .i64 ix1, Value.int .i64 tm1, Value.int .i64 kd1, Value.slice Av qd.length cv] (by simp)
            injection e1 with e1
            subst e1
            exact h2
           have HC7 := Lib.hid hc7
           have hs7 := HB7.out.size
           have HR7 := Lib.hid (World.ownsRow.kept HM6.out.tgt.ents (grown_of_below HB7.out none) (by generalize (Value.slice Al' rsk.length cl').ownBlock = o; cases o <;> simp))
           have HKT7 := Lib.hid (HB7.out.block tb HTL.out)
           have HKE7 := Lib.hid (HB7.out.block wr.heap.size HEL6.out)
           clear hw7 hc7 HBA HSA
           refine heldT_sole 8 (by simp) (by kernel_rfl) (fun K hK => ?_)
           simp only [List.getElem_cons_zero, List.getElem_cons_succ]
           rw [if_pos (by rfl)]
           refine wp_append_size (.tmp 199) (.tmp 201) 40 rfl w0.heap.size 65 (.agg #[.int .i64 0, .int .i64 0, .int .i64 0, .slice none 0 0]) 4 48 Tryz.underlying40 info_entry rfl (by decide) _ rsk.length (erCells rsk) rfl HR7.out ⟨w6.heap.size, 0, none⟩ 1 1 _ rfl rfl HC7.out (by simp [Value.oneCell']) (by unfold maxLen; omega) (by omega) (by omega) ?_
           intro v8 w8 hown8 hg8 hf8
           obtain ⟨A8, c8, hv8, _⟩ := jrow_shape hown8
           subst hv8
           have hs8 := hg8.size
           have kT8 : w8.heap[tb]? = w7.heap[tb]? := hg8.block tb (by have := HTL.out; omega) (fun e => own_ne_blk HM6.out.tgt.ents HM6.out.tgt.blk (by decide) e.symm)
           have kE8 : w8.heap[wr.heap.size]? = w7.heap[wr.heap.size]? := hg8.block _ (by have := HEL6.out; omega) (fun e => by have := (HWL.out wr.heap.size (.inr (.inr (.inl e.symm)))).2; omega)
           have HKT8 := Lib.hid (kT8.trans HKT7.out)
           have HKE8 := Lib.hid (kE8.trans HKE7.out)
           have hve7 := World.ownsRow.kept HM6.out.tgt.ends (grown_of_below HB7.out none) (by generalize (Value.slice Ae' sk.ends.length ce').ownBlock = o; cases o <;> simp)
           have HVE8 := Lib.hid (World.ownsRow.kept hve7 hg8 (jrow_type_ne hve7 HR7.out (by decide)))
           have HO8 := Lib.hid hown8
           have HG8 := Lib.hid hg8
           have HF8 := Lib.hid hf8
           have hsend : sk.ends.length ≤ 102000001 := by have := HM6.out.num.2.1; omega
           have HLN : Hid (Calls Tryz.prog 56 #[.pointer (some ⟨tb, 0, none⟩)] w8 fun e w' => e = .returned (.int .i64 sk.long) ∧ Below w8.heap.size w8 w') := Lib.hid (long_cells ((World.cell?_of_block HKT8.out).trans (HKT6.out.cell 4)) (by have h := HVE8.out; unfold Own; rw [List.length_map] at h ⊢; exact h) (fun e => by have := HM6.out.num.2.1; rw [e] at this; simp at this) (by omega))
           clear hown8 hg8 hf8 kT8 kE8 hve7 HC7
           refine hK _ _ (HSK.out _ (World.cell?_of_block HKT8.out) HKE8.out) (fun hHeld => ?_)
           clear hK K
           try simp only [Act.put, List.setIfInBounds_toArray, List.set_cons_zero, List.set_cons_succ]
           refine heldT_sole 14 (by simp) (by kernel_rfl) (fun K hK => ?_)
           simp only [List.getElem_cons_zero, List.getElem_cons_succ]
           go_simp
           refine HLN.out.mono ?_
           rintro e w9 ⟨rfl, hb9⟩
           have hs9 := hb9.size
           have HKT9 := Lib.hid ((hb9.block tb (by have := HTL.out; omega)).trans HKT8.out)
           have HKE9 := Lib.hid ((hb9.block wr.heap.size (by have := HEL6.out; omega)).trans HKE8.out)
           have HB9 := Lib.hid hb9
           clear hb9 HLN
           refine hK _ _ (HSK.out _ (World.cell?_of_block HKT9.out) HKE9.out) (fun hHeld => ?_)
           clear hK K
           try simp only [Act.put, List.setIfInBounds_toArray, List.set_cons_zero, List.set_cons_succ]
           have hsk0 : 0 ≤ sk.long := (HM6.out.num.1.ends _ (lastD_mem (fun e => by have := HM6.out.num.2.1; rw [e] at this; simp at this))).1
           obtain ⟨n, hn⟩ : ∃ n, n = sk.long + (pp.length : Int) := ⟨_, rfl⟩
           have hwn : IntKind.i64.wrap (sk.long + (pp.length : Int)) = n := by rw [hn]; exact IntWalk.i64_in _ (by omega)
           have hnb : 0 ≤ n ∧ n ≤ 4611686018427387904 := by omega
           have HNN := Lib.hid hn
           clear hn
           refine heldT_sole 17 (by simp) (by kernel_rfl) (fun K hK => ?_)
           simp only [List.getElem_cons_zero, List.getElem_cons_succ]
           go_simp
           refine hK _ _ (HSK.out _ (World.cell?_of_block HKT9.out) HKE9.out) (fun hHeld => ?_)
           clear hK K
           try simp only [Act.put, List.setIfInBounds_toArray, List.set_cons_zero, List.set_cons_succ]
           refine heldT_sole 18 (by simp) (by kernel_rfl) (fun K hK => ?_)
           simp only [List.getElem_cons_zero, List.getElem_cons_succ]
           go_simp
           obtain ⟨w10, hw10⟩ : ∃ W, W = w9.alloc (.cells #[.int .i64 n] 3) := ⟨_, rfl⟩
           have hb10 : Below w9.heap.size w9 w10 := by rw [hw10]; exact (Below.refl _ w9).alloc (Nat.le_refl _) _
           have hs10 := hb10.size
           have HRD10 : Hid (Rd w10 (w9.heap.size + 1) (some ⟨w9.heap.size, 0, none⟩) [.int .i64 n]) := Lib.hid (by rw [hw10]; exact rd_lit w9 3 [.int .i64 n])
           have HKT10 := Lib.hid ((hb10.block tb (by have := HTL.out; omega)).trans HKT9.out)
           have HKE10 := Lib.hid ((hb10.block wr.heap.size (by have := HEL6.out; omega)).trans HKE9.out)
           have HB10 := Lib.hid (HB9.out.trans (hb10.mono (by omega)))
           have HVE10 : Hid (Own w10 w0.heap.size 3 (.slice Ae' sk.ends.length ce') (sk.ends.map (Value.int .i64))) := Lib.hid (Own.kept HVE8.out (grown_of_below HB10.out none) (by generalize (Value.slice Ae' sk.ends.length ce').ownBlock = o; cases o <;> simp))
           rw [← hw10]
           clear hw10 hb10
           refine hK _ _ (HSK.out _ (World.cell?_of_block HKT10.out) HKE10.out) (fun hHeld => ?_)
           clear hK K
           try simp only [Act.put, List.setIfInBounds_toArray, List.set_cons_zero, List.set_cons_succ]
           refine heldT_sole 19 (by simp) (by kernel_rfl) (fun K hK => ?_)
           simp only [List.getElem_cons_zero, List.getElem_cons_succ]
           rw [if_pos (by rfl)]
           refine wp_append_any (.tmp 206) (.tmp 212) 41 rfl w0.heap.size 3 (.int .i64 0) 8 Tryz.underlying41 info_int rfl _ (sk.ends.map (Value.int .i64)) rfl HVE10.out (w9.heap.size + 1) (some ⟨w9.heap.size, 0, none⟩) 1 1 [.int .i64 n] rfl rfl HRD10.out (by simp [Value.oneCell']) (by rw [List.length_map]; unfold maxLen; omega) (by rw [List.length_map]; omega) (by omega) ?_
           intro v11 w11 hown11 hg11 hf11
           obtain ⟨A11, c11, hv11, _⟩ := Own.shape hown11
           rw [List.length_append, List.length_map] at hv11
           subst hv11
           have hs11 := hg11.size
           have kT11 : w11.heap[tb]? = w10.heap[tb]? := hg11.block tb (by have := HTL.out; omega) (fun e => own_ne_blk HM6.out.tgt.ends HM6.out.tgt.blk (by decide) e.symm)
           have kE11 : w11.heap[wr.heap.size]? = w10.heap[wr.heap.size]? := hg11.block _ (by have := HEL6.out; omega) (fun e => by have := (HWL.out wr.heap.size (.inr (.inr (.inr (.inl e.symm))))).2; omega)
           have hT11 : Blk w11 tb 104 _ := (kT11.trans HKT10.out).trans HKT6.out
           have g3 : w11.cell? ⟨tb, 3, none⟩ = some (.slice Al' rsk.length cl') := hT11.cell 3
           have z3 : w11.frozen? ⟨tb, 3, none⟩ = false := hT11.frozen 3
           have HKE11 := Lib.hid (kE11.trans HKE10.out)
           have HT11 := Lib.hid hT11
           have HO11 := Lib.hid hown11
           have HG11 := Lib.hid hg11
           have HF11 := Lib.hid hf11
           have HS11 := Lib.hid (HSK.out w11 ((hT11.cell 4).trans (HKT6.out.cell 4).symm) HKE11.out)
           clear hown11 hg11 hf11 kT11 kE11 hT11 HRD10
           refine hK _ _ HS11.out (fun hHeld => ?_)
           clear hK K
           try simp only [Act.put, List.setIfInBounds_toArray, List.set_cons_zero, List.set_cons_succ]
           refine heldT_sole 20 (by simp) (by kernel_rfl) (fun K hK => ?_)
           simp only [List.getElem_cons_zero, List.getElem_cons_succ]
           go_simp
           refine hK _ _ HS11.out (fun hHeld => ?_)
           clear hK K
           try simp only [Act.put, List.setIfInBounds_toArray, List.set_cons_zero, List.set_cons_succ]
           refine heldT_sole 21 (by simp) (by kernel_rfl) (fun K hK => ?_)
           simp only [List.getElem_cons_zero, List.getElem_cons_succ]
           go_simp
           refine hK _ _ HS11.out (fun hHeld => ?_)
           clear hK K
           try simp only [Act.put, List.setIfInBounds_toArray, List.set_cons_zero, List.set_cons_succ]
           refine heldT_sole 22 (by simp) (by kernel_rfl) (fun K hK => ?_)
           simp only [List.getElem_cons_zero, List.getElem_cons_succ]
           go_simp
           have hT12 := HT11.out.set_ 3 (.slice A8 (rsk.length + 1) c8)
           have hg12 := grown_setCell w11 tb 3 (.slice A8 (rsk.length + 1) c8)
           have g4 : (w11.setCell ⟨tb, 3, none⟩ (.slice A8 (rsk.length + 1) c8)).cell? ⟨tb, 4, none⟩ = some (.slice Ae' sk.ends.length ce') := hT12.cell 4
           have z4 : (w11.setCell ⟨tb, 3, none⟩ (.slice A8 (rsk.length + 1) c8)).frozen? ⟨tb, 4, none⟩ = false := hT12.frozen 4
           have htbw := (HWL.out tb (.inr (.inl rfl))).2
           have HS12 := Lib.hid (HSK.out _ (g4.trans (HKT6.out.cell 4).symm) ((hg12.block wr.heap.size (by have := HEL6.out; omega) (fun e => by injection e with e; omega)).trans HKE11.out))
           clear hT12 hg12
           refine hK _ _ HS12.out (fun hHeld => ?_)
           clear hK K
           try simp only [Act.put, List.setIfInBounds_toArray, List.set_cons_zero, List.set_cons_succ]
           refine heldT_sole 23 (by simp) (by kernel_rfl) (fun K hK => ?_)
           simp only [List.getElem_cons_zero, List.getElem_cons_succ]
           go_simp
           refine hK _ _ HS12.out (fun hHeld => ?_)
           clear hK K
           try simp only [Act.put, List.setIfInBounds_toArray, List.set_cons_zero, List.set_cons_succ]
           refine heldT_sole 24 (by simp) (by kernel_rfl) (fun K hK => ?_)
           simp only [List.getElem_cons_zero, List.getElem_cons_succ]
           go_simp
           refine hK _ _ HS12.out (fun hHeld => ?_)
           clear hK K
           try simp only [Act.put, List.setIfInBounds_toArray, List.set_cons_zero, List.set_cons_succ]
           refine heldT_last (t := 25) (by simp) (by kernel_rfl) (by kernel_rfl) (fun K hK => ?_)
           simp only [List.getElem_cons_zero, List.getElem_cons_succ]
           go_simp
           refine hK _ _ ?_
           clear hK K hHeld g3 z3 g4 z4
           have HDAT6 : Hid (DatF w6 (fun x => F x ∨ D x) (.slice Av qd.length cv) qd) := Lib.hid ((HDAT.out.keep (by omega) (fun x hx => by
            have h1 := (HDD.out x).1 hx
            exact (HGR6.out.block x (by omega) (fun e => HNO.out x (.inr hx) (.inr (.inr (.inr e.symm))))).trans ((HB5.out.block x (by omega)).trans (HD2.out.2 x hx)))).mono (fun x hx => .inr hx))
           have HM14 := Lib.hid (HM6.out.entG (q := ⟨.slice Av qd.length cv, ⟨ix1, tm1, kd1, qd⟩⟩) (n := n) (fun x hx => ⟨by have := HFDR.out x hx; omega, fun e => HNO.out x hx (.inl e), fun e => HNO.out x hx (.inr (.inl e)), fun e => HNO.out x hx (.inr (.inr (.inl e)))⟩) HDAT6.out HB7.out HG8.out HO8.out HF8.out HB10.out HG11.out HO11.out HF11.out hnb HQN.out.1 (by omega) hqdl)
           have hgS : w11.grownBy ((w11.setCell ⟨tb, 3, none⟩ (.slice A8 (rsk.length + 1) c8)).setCell ⟨tb, 4, none⟩ (.slice A11 (sk.ends.length + 1) c11)) (some tb) := grown_then (grown_setCell w11 tb 3 _) (grown_setCell _ tb 4 _) (.inl rfl)
           have HGS := Lib.hid hgS
           clear hgS
           generalize ((w11.setCell ⟨tb, 3, none⟩ (.slice A8 (rsk.length + 1) c8)).setCell ⟨tb, 4, none⟩ (.slice A11 (sk.ends.length + 1) c11)) = w14 at HM14 HGS ⊢
           go_wp2_with fail
           go_roundw
           case rel =>
            have hs14 := HGS.out.size
            have hs06 := HB6.out.size
            refine ⟨k + 1, rsk ++ [⟨.slice Av qd.length cv, ⟨ix1, tm1, kd1, qd⟩⟩], _, _, _, by omega, by go_num, rfl, Lib.hid ?_, Lib.hid ⟨by omega, fun x hx => ?_⟩, Lib.hid (by rw [HSKM.out, HBK2.out, ← HNN.out]; exact HM14.out), Lib.hid (fun x hx => ?_)⟩
            ·exact ((((HB6.out.trans (HB7.out.mono hs06)).grown HG8.out (by omega) (fun r hr => (HWL.out r (.inr (.inr (.inl hr)))).1)).trans (HB10.out.mono (by omega))).grown HG11.out (by omega) (fun r hr => (HWL.out r (.inr (.inr (.inr (.inl hr))))).1)).grown HGS.out (by omega) (fun r hr => by injection hr with hr; have := (HWL.out tb (.inr (.inl rfl))).1; omega)
            ·have h1 := (HDD.out x).1 hx
             have hn := fun h => HNO.out x (.inr hx) h
             exact (HGS.out.block x (by omega) (fun e => hn (.inl (by injection e)))).trans ((HG11.out.block x (by omega) (fun e => hn (.inr (.inr (.inl e.symm))))).trans ((HB10.out.block x (by omega)).trans ((HG8.out.block x (by omega) (fun e => hn (.inr (.inl e.symm)))).trans ((HB7.out.block x (by omega)).trans ((HGR6.out.block x (by omega) (fun e => hn (.inr (.inr (.inr e.symm))))).trans ((HB5.out.block x (by omega)).trans (HD2.out.2 x hx)))))))
            ·rcases hx with hx | hx | hx | hx
             ·exact HW.out x (.inl hx)
             ·rcases HF8.out with e | ⟨y, e, hy⟩
              ·exact HW.out x (.inr (.inl (e ▸ hx)))
              ·rw [hx] at e
               injection e with e
               exact .inr (by omega)
             ·rcases HF11.out with e | ⟨y, e, hy⟩
              ·exact HW.out x (.inr (.inr (.inl (e ▸ hx))))
              ·rw [hx] at e
               injection e with e
               exact .inr (by omega)
             ·rcases HF6.out x hx with h1 | h1
              ·exact HW.out x (.inr (.inr (.inr h1)))
              ·exact .inr (by omega)
           case measure => simp [intOf]; omega
         ·obtain rfl : k = rs.length := by omega
          have htl : l.take rs.length = l := List.take_of_length_le (by omega)
          rw [htl] at HM
          obtain ⟨s1, hs1⟩ : ∃ s, s = addEnts s0 l := ⟨_, rfl⟩
          obtain ⟨B, hB⟩ : ∃ b, b = bh ++ (l.map jPiece).flatten := ⟨_, rfl⟩
          have hBl : B.length ≤ 1001048600 := by
           have := HFLAT.out rs.length
           rw [htl] at this
           rw [hB, List.length_append]
           omega
          rw [← hs1, ← hB] at HM
          have HSV3 : Hid (saveJ j d l = if 999999999 < s1.k then (1, j, d) else if d.free + fr < (B.length : Int) then (52, j, d) else ((runJ (al ++ [.app (jName s1.k) B, .sync (jName s1.k)]) d).1, if (runJ (al ++ [.app (jName s1.k) B, .sync (jName s1.k)]) d).1 = 0 then { j with segs := ssP ++ [s1] } else { j with bad := (runJ (al ++ [.app (jName s1.k) B, .sync (jName s1.k)]) d).1 }, (runJ (al ++ [.app (jName s1.k) B, .sync (jName s1.k)]) d).2)) := Lib.hid (HSV.out.trans (HSV2.out.trans (by unfold saveF; rw [← hs1, ← hB])))
          obtain ⟨Ab, cb', hvb, kb1, kb2, _⟩ := HM.out.bytes.shape
          subst hvb
          have t0 : wr.cell? ⟨tb, 0, none⟩ = some (.int .i64 s1.k) := HM.out.tgt.blk.cell 0
          have hsk := HM.out.num.2.2.2.2
          have HSG := Lib.hid (HM.out.segsAt (fun q hq => ⟨HFDR.out q hq, fun e => by
           have h1 := (HM.out.row.lt q e).1
           rcases hq with hq | hq
           ·have := HFL.out q hq; omega
           ·have := (HLW.out q (.inl e)).2; have := (HDD.out q).1 hq; omega⟩))
          have HFAR := Lib.hid (HM.out.dvFar (fun q hq e => by
           have h1 := HLW.out q (.inr (.inr (.inr (.inr (.inr e)))))
           rcases hq with hq | hq
           ·have := HFL.out q hq; omega
           ·have := (HDD.out q).1 hq; omega))
          have HFROM : Hid (∀ x, _ → F x ∨ w.heap.size ≤ x) := Lib.hid (fun x hx => (HM.out.from_ (F0 := F) (fun q hq => by
           rcases hq with hq | hq
           ·exact .inl hq
           ·have := (HDD.out q).1 hq; exact .inr (by omega)) x hx).imp id (fun h => by omega))
          clear hs1 hB htl HSV2
          by_cases hmax : 999999999 < s1.k
          ·have HR1 := Lib.hid (show saveJ j d l = (1, j, d) by rw [HSV3.out, if_pos hmax])
           go_wp2_with fail
           go_ret
           exact HH.out.same HBWR.out HR1.out
          ·obtain ⟨_, _, hr0, hr1⟩ := HH.out.disk.num
           have HH8 := Lib.hid (HH.out.below HBWR.out)
           have hfr := free_any HH8.out.disk (by rw [HH.out.fs]; have := HOK.out.sz; omega)
           rw [HH.out.fs] at hfr
           obtain ⟨f2, hf2⟩ : ∃ x, x = d.room - sizes d.fs := ⟨_, rfl⟩
           rw [← hf2] at hfr
           have hfrs := HFRS.out
           have hfr0 := HFR0.out
           have hszn := sizes_nonneg d.fs
           have hszL := HOK.out.sz
           have hwf : IntKind.i64.wrap (f2 + fr) = f2 + fr := IntWalk.i64_in _ (by omega)
           have HFE := Lib.hid (show d.free = f2 from hf2.symm)
           have HFRR := Lib.hid hfr
           have b0 : wr.cell? ⟨w.heap.size, 0, none⟩ = some (.pointer (some ⟨gj, 0, none⟩)) := (HX0.out.below HB.out hxl).cell 0
           have j3 : wr.cell? ⟨gj, 3, none⟩ = some (.pointer (some ⟨g, 0, none⟩)) := (HJ0.out.below HB.out (by omega)).cell 3
           clear hfr hf2 hszL hr0 hr1 HH8
           go_wp2_with fail
           refine HFRR.out.mono ?_
           rintro e w8 ⟨rfl, hb8⟩
           have hs8 := hb8.size
           have HB8 := Lib.hid (HB.out.trans (hb8.mono hsr))
           have HBW8 := Lib.hid (HB0.out.trans (HB8.out.mono hs0))
           have HB88 := Lib.hid hb8
           clear hb8 HFRR t0 b0 j3
           by_cases hroom : f2 + fr < (B.length : Int)
           ·have HR2 := Lib.hid (show saveJ j d l = (52, j, d) by rw [HSV3.out, if_neg (by omega), if_pos (by rw [HFE.out]; exact hroom)])
            go_wp2_with fail
            go_ret
            exact HH.out.same HBW8.out HR2.out
           ·have HSV4 : Hid (saveJ j d l = ((runJ (al ++ [.app (jName s1.k) B, .sync (jName s1.k)]) d).1, if (runJ (al ++ [.app (jName s1.k) B, .sync (jName s1.k)]) d).1 = 0 then { j with segs := ssP ++ [s1] } else { j with bad := (runJ (al ++ [.app (jName s1.k) B, .sync (jName s1.k)]) d).1 }, (runJ (al ++ [.app (jName s1.k) B, .sync (jName s1.k)]) d).2)) := Lib.hid (by rw [HSV3.out, if_neg (by omega), if_neg (by rw [HFE.out]; omega)])
            obtain ⟨Ad1, cd1, hdv1, _⟩ := HM.out.acts.own.shape
            subst hdv1
            have HVLEN := Lib.hid HM.out.acts.len
            have HWR := Lib.hid HM.out.wr
            have HWRL := Lib.hid HM.out.wrlt
            have htl := (HWRL.out tb (.inr (.inl rfl))).2
            have HACT := Lib.hid (HM.out.acts.below HB88.out)
            have HGB := Lib.hid (HM.out.bytes.below HB88.out (Nat.le_refl _))
            have HTB := Lib.hid (HM.out.tgt.blk.below HB88.out htl)
            have hnoD := own_ne_got HM.out.acts.own HM.out.bytes (by decide)
            have HNOD := Lib.hid hnoD
            have HSX : Hid (∀ W, Below w0.heap.size w0 W → W.cell? ⟨w.heap.size, 0, none⟩ = some (.pointer (some ⟨gj, 0, none⟩)) ∧ True ∧ True ∧ True) := Lib.hid (fun W h => ⟨(HX0.out.below h hxl).cell 0, trivial, trivial, trivial⟩)
            have hqn := jName_len s1.k (by omega)
            have HBd : Hid (Below w8.heap.size w8 w8.drew) := Lib.hid (Below.refl _ w8).drew
            have HNA := Lib.hid (jname_any tb 0 s1.k (by omega) w8.drew ((HTB.out.below HBd.out (by omega)).cell 0) (HE.out w8.drew ((HBW8.out.trans (HBd.out.mono (by omega))).mono hbw)))
            obtain ⟨nm, hnm⟩ : ∃ x, x = jName s1.k := ⟨_, rfl⟩
            have HNM := Lib.hid hnm
            rw [← hnm] at HNA hqn
            clear hnm HSV3 HSV hnoD
            go_upto_region 43 with fail
            refine wp_region_held_drew (S := fun W => W.cell? ⟨w.heap.size, 0, none⟩ = some (.pointer (some ⟨gj, 0, none⟩)) ∧ True ∧ True ∧ True) (by kernel_rfl) (HSX.out _ HB8.out.drew) (fun hHeld => ?_)
            clear hroom hmax
            refine held_take 0 (v := ?_) (by simp) (by kernel_rfl) (by kernel_rfl) (by kernel_rfl) (fun _ _ _ h => h) (Or.inl ⟨by rfl, ?_⟩) hHeld ?_
            case refine_2 => (intro w hSw; (try dsimp only at hSw); (try (obtain ⟨s0, s1, s2, s3⟩ := hSw)); simp only [List.getElem_cons_zero]; go_simp <;> with_reducible rfl)
            simp only [List.getElem_cons_zero, Act.put, List.setIfInBounds_toArray, List.set_cons_zero, List.set_cons_succ]
            refine held_take 1 (v := ?_) (by simp) (by kernel_rfl) (by kernel_rfl) (by kernel_rfl) (fun _ _ _ h => h) (Or.inl ⟨by rfl, ?_⟩) hHeld ?_
            case refine_2 => (intro w hSw; (try dsimp only at hSw); (try (obtain ⟨s0, s1, s2, s3⟩ := hSw)); simp only [List.getElem_cons_zero, List.getElem_cons_succ]; go_simp <;> with_reducible rfl)
            simp only [List.getElem_cons_zero, List.getElem_cons_succ, Act.put, List.setIfInBounds_toArray, List.set_cons_zero, List.set_cons_succ]
            refine held_take 2 (v := ?_) (by simp) (by kernel_rfl) (by kernel_rfl) (by kernel_rfl) (fun _ _ _ h => h) (Or.inl ⟨by rfl, ?_⟩) hHeld ?_
            case refine_2 => (intro w hSw; (try dsimp only at hSw); (try (obtain ⟨s0, s1, s2, s3⟩ := hSw)); simp only [List.getElem_cons_zero, List.getElem_cons_succ]; go_simp <;> with_reducible rfl)
            simp only [List.getElem_cons_zero, List.getElem_cons_succ, Act.put, List.setIfInBounds_toArray, List.set_cons_zero, List.set_cons_succ]
            refine held_take 3 (v := ?_) (by simp) (by kernel_rfl) (by kernel_rfl) (by kernel_rfl) (fun _ _ _ h => h) (Or.inl ⟨by rfl, ?_⟩) hHeld ?_
            case refine_2 => (intro w hSw; (try dsimp only at hSw); (try (obtain ⟨s0, s1, s2, s3⟩ := hSw)); simp only [List.getElem_cons_zero, List.getElem_cons_succ]; go_simp <;> with_reducible rfl)
            simp only [List.getElem_cons_zero, List.getElem_cons_succ, Act.put, List.setIfInBounds_toArray, List.set_cons_zero, List.set_cons_succ]
            refine held_take 5 (v := ?_) (by simp) (by kernel_rfl) (by kernel_rfl) (by kernel_rfl) (fun _ _ _ h => h) (Or.inl ⟨by rfl, ?_⟩) hHeld ?_
            case refine_2 => (intro w hSw; (try dsimp only at hSw); (try (obtain ⟨s0, s1, s2, s3⟩ := hSw)); simp only [List.getElem_cons_zero, List.getElem_cons_succ]; go_simp <;> with_reducible rfl)
            simp only [List.getElem_cons_zero, List.getElem_cons_succ, Act.put, List.setIfInBounds_toArray, List.set_cons_zero, List.set_cons_succ]
            refine held_take 7 (v := ?_) (by simp) (by kernel_rfl) (by kernel_rfl) (by kernel_rfl) (fun _ _ _ h => h) (Or.inl ⟨by rfl, ?_⟩) hHeld ?_
            case refine_2 => (intro w hSw; (try dsimp only at hSw); (try (obtain ⟨s0, s1, s2, s3⟩ := hSw)); simp only [List.getElem_cons_zero, List.getElem_cons_succ]; go_simp <;> with_reducible rfl)
            simp only [List.getElem_cons_zero, List.getElem_cons_succ, Act.put, List.setIfInBounds_toArray, List.set_cons_zero, List.set_cons_succ]
            refine held_take 8 (v := ?_) (by simp) (by kernel_rfl) (by kernel_rfl) (by kernel_rfl) (fun _ _ _ h => h) (Or.inl ⟨by rfl, ?_⟩) hHeld ?_
            case refine_2 => (intro w hSw; (try dsimp only at hSw); (try (obtain ⟨s0, s1, s2, s3⟩ := hSw)); simp only [List.getElem_cons_zero, List.getElem_cons_succ]; go_simp <;> with_reducible rfl)
            simp only [List.getElem_cons_zero, List.getElem_cons_succ, Act.put, List.setIfInBounds_toArray, List.set_cons_zero, List.set_cons_succ]
            refine held_sole 4 (by simp) (by kernel_rfl) (fun K hK => ?_)
            simp only [List.getElem_cons_zero, List.getElem_cons_succ]
            go_simp
            refine HNA.out.mono ?_
            rintro e w9 ⟨rfl, hb9⟩
            have HB9 : Hid (Below w8.heap.size w8 w9) := Lib.hid (HBd.out.trans (hb9.mono (Nat.le_refl _)))
            have hs9 := HB9.out.size
            clear hb9 HNA
            refine hK.out _ _ (HSX.out _ (HB8.out.trans (HB9.out.mono (by omega)))) (fun hHeld => ?_)
            clear hK K
            try simp only [Act.put, List.setIfInBounds_toArray, List.set_cons_zero, List.set_cons_succ]
            refine held_sole 6 (by simp) (by kernel_rfl) (fun K hK => ?_)
            simp only [List.getElem_cons_zero, List.getElem_cons_succ]
            go_simp
            refine (show Calls _ _ _ w9 _ from jmk_put (gj := gj) (g := g) nm (by omega) B Ab cb' kb1 (by omega) w9).mono ?_
            rintro e w10 ⟨vP, rfl, hb10, ⟨FQ, capsP, rfl⟩, _, hactP⟩
            have hs10 := hb10.size
            have HB10 := Lib.hid (HB9.out.trans (hb10.mono hs9))
            have HJP := Lib.hid (hactP (fun x => G1 x ∨ (Value.slice Ab B.length cb').ownBlock = some x ∨ (w8.heap.size ≤ x ∧ x < w10.heap.size)) (fun x h1 h2 => .inr (.inr ⟨by omega, h2⟩)) ((HGB.out.below HB10.out (Nat.le_refl _)).rdO.mono (fun x hx => .inr (.inl hx))))
            have HNA2 := Lib.hid (jname_any tb 0 s1.k (by omega) w10 ((HTB.out.below HB10.out (by omega)).cell 0) (HE.out w10 ((HBW8.out.trans (HB10.out.mono (by omega))).mono hbw)))
            rw [← HNM.out] at HNA2
            clear hb10 hactP
            refine hK.out _ _ (HSX.out _ (HB8.out.trans (HB10.out.mono (by omega)))) (fun hHeld => ?_)
            clear hK K
            try simp only [Act.put, List.setIfInBounds_toArray, List.set_cons_zero, List.set_cons_succ]
            refine held_sole 9 (by simp) (by kernel_rfl) (fun K hK => ?_)
            simp only [List.getElem_cons_zero, List.getElem_cons_succ]
            go_simp
            refine HNA2.out.mono ?_
            rintro e w11 ⟨rfl, hb11⟩
            have hs11 := hb11.size
            have HB11 := Lib.hid (HB10.out.trans (hb11.mono (by omega)))
            have HB1011 := Lib.hid hb11
            clear hb11 HNA2
            refine hK.out _ _ (HSX.out _ (HB8.out.trans (HB11.out.mono (by omega)))) (fun hHeld => ?_)
            clear hK K
            try simp only [Act.put, List.setIfInBounds_toArray, List.set_cons_zero, List.set_cons_succ]
            refine held_sole 10 (by simp) (by kernel_rfl) (fun K hK => ?_)
            simp only [List.getElem_cons_zero, List.getElem_cons_succ]
            go_simp
            refine (show Calls _ _ _ w11 _ from jmk_sync (gj := gj) (g := g) nm (by omega) w11).mono ?_
            rintro e w12 ⟨vS, rfl, hb12, ⟨FS, capsS, rfl⟩, _, hactS⟩
            have hs12 := hb12.size
            have HB12 := Lib.hid (HB11.out.trans (hb12.mono (by omega)))
            have HB1012 := Lib.hid (HB1011.out.trans (hb12.mono hs11))
            have HJS := Lib.hid (hactS (fun x => G1 x ∨ (Value.slice Ab B.length cb').ownBlock = some x ∨ (w8.heap.size ≤ x ∧ x < w12.heap.size)) (fun x h1 h2 => .inr (.inr ⟨by omega, h2⟩)))
            have hG8 := HACT.out.lt
            have hb8l := HGB.out.row.lt
            have HJP2 := Lib.hid ((HJP.out.keep HB1012.out.size (fun x hx => HB1012.out.block x (by
             rcases hx with hx | hx | hx
             ·have := hG8 x hx; omega
             ·have := hb8l x hx; omega
             ·exact hx.2))).mono (E' := fun x => G1 x ∨ (Value.slice Ab B.length cb').ownBlock = some x ∨ (w8.heap.size ≤ x ∧ x < w12.heap.size)) (fun x hx => hx.imp id (fun h => h.imp id (fun h => ⟨h.1, by omega⟩))))
            clear hb12 hactS HJP HB1011 HB1012
            refine hK.out _ _ (HSX.out _ (HB8.out.trans (HB12.out.mono (by omega)))) (fun hHeld => ?_)
            clear hK K
            try simp only [Act.put, List.setIfInBounds_toArray, List.set_cons_zero, List.set_cons_succ]
            refine held_sole 11 (by simp) (by kernel_rfl) (fun K hK => ?_)
            simp only [List.getElem_cons_zero, List.getElem_cons_succ]
            go_simp
            obtain ⟨wF, hwF⟩ : ∃ W, W = w12.alloc (.cells #[.func (.func FQ) #[] capsP, .func (.func FS) #[] capsS] 98) := ⟨_, rfl⟩
            have hbF : Below w12.heap.size w12 wF := by rw [hwF]; exact (Below.refl _ w12).alloc (Nat.le_refl _) _
            have hsF := hbF.size
            have HRA : Hid (Rd wF (w12.heap.size + 1) (some ⟨w12.heap.size, 0, none⟩) [.func (.func FQ) #[] capsP, .func (.func FS) #[] capsS]) := Lib.hid (by rw [hwF]; exact rd_lit w12 98 [.func (.func FQ) #[] capsP, .func (.func FS) #[] capsS])
            rw [← hwF]
            have HBF := Lib.hid (HB12.out.trans (hbF.mono (by omega)))
            have HBF2 := Lib.hid hbF
            have HACF := Lib.hid (HACT.out.below HBF.out)
            clear hwF hbF
            refine hK.out _ _ (HSX.out _ (HB8.out.trans (HBF.out.mono (by omega)))) (fun hHeld => ?_)
            clear hK K
            try simp only [Act.put, List.setIfInBounds_toArray, List.set_cons_zero, List.set_cons_succ]
            refine held_sole 12 (by simp) (by kernel_rfl) (fun K hK => ?_)
            simp only [List.getElem_cons_zero, List.getElem_cons_succ]
            rw [if_pos (by rfl)]
            refine wp_append_any (.tmp 237) (.tmp 247) 110 rfl w0.heap.size 98 .nilFunc 8 Tryz.underlying110 info_fnJ rfl _ vs1 rfl HACF.out.own (w12.heap.size + 1) (some ⟨w12.heap.size, 0, none⟩) 2 2 [.func (.func FQ) #[] capsP, .func (.func FS) #[] capsS] rfl rfl HRA.out (by simp [Value.oneCell']) (by unfold maxLen; omega) (by omega) (by omega) ?_
            intro v13 w13 hown13 hg13 hf13
            have hs13 := hg13.size
            have hdl := HACT.out.own.lt
            have hA13 : ActsS w13 (fun x => G1 x ∨ (Value.slice Ab B.length cb').ownBlock = some x ∨ (w8.heap.size ≤ x ∧ x < w12.heap.size)) w0.heap.size gj g v13 (vs1 ++ [.func (.func FQ) #[] capsP, .func (.func FS) #[] capsS]) (al ++ [.app nm B, .sync nm]) := by
             refine ActsS.pushes HACF.out rfl (fun i h1 h2 => ?_) (by simp [Value.oneCell']) (fun x hx => .inl hx) (fun x hx => ?_) (fun r hr hx => ?_) hg13 hf13 hown13
             ·have hi : i < 2 := h1
              have hbl : ∀ x, (G1 x ∨ (Value.slice Ab B.length cb').ownBlock = some x ∨ (w8.heap.size ≤ x ∧ x < w12.heap.size)) → x < w12.heap.size := fun x hx => by
               rcases hx with hx | hx | hx
               ·have := hG8 x hx; omega
               ·have := hb8l x hx; omega
               ·exact hx.2
              rcases (by omega : i = 0 ∨ i = 1) with rfl | rfl
              ·exact HJP2.out.keep HBF2.out.size (fun x hx => HBF2.out.block x (hbl x hx))
              ·exact HJS.out.keep HBF2.out.size (fun x hx => HBF2.out.block x (hbl x hx))
             ·rcases hx with hx | hx | hx
              ·have := hG8 x hx; omega
              ·have := hb8l x hx; omega
              ·omega
             ·rcases hx with hx | hx | hx
              ·exact HACT.out.apart r hr hx
              ·rcases HNOD.out with h1 | h1
               ·rw [h1] at hr; cases hr
               ·exact h1 (hr.trans hx.symm)
              ·have := (hdl r hr).2; omega
            have HB13 := Lib.hid (HB8.out.trans ((HBF.out.mono (by omega)).trans ((Below.refl _ wF).grown hg13 (by omega) (fun r hr => (hdl r hr).1))))
            obtain ⟨vs3, hvs3⟩ : ∃ v : List Value, v = vs1 ++ [.func (.func FQ) #[] capsP, .func (.func FS) #[] capsS] := ⟨_, rfl⟩
            rw [← hvs3] at hA13 hown13
            clear hvs3
            obtain ⟨Ad3, cd3, hdv3, _, _, _⟩ := hown13.shape
            subst hdv3
            have HA13 := Lib.hid hA13
            have HBW13 := Lib.hid (HB0.out.trans (HB13.out.mono hs0))
            have hEs : ∀ x, ((G1 x ∨ (Value.slice Ab B.length cb').ownBlock = some x ∨ (w8.heap.size ≤ x ∧ x < w12.heap.size)) ∨ (Value.slice Ad3 vs3.length cd3).ownBlock = some x) → (F x ∨ w.heap.size ≤ x) ∧ x < w13.heap.size := fun x hx => by
             rcases hx with (hx | hx | hx) | hx
             ·have := hG8 x hx
              exact ⟨HGL.out x hx, by omega⟩
             ·have := hb8l x hx
              have := HGB.out.row.base x hx
              exact ⟨.inr (by omega), by omega⟩
             ·exact ⟨.inr (by omega), by omega⟩
             ·have := hown13.lt x hx
              exact ⟨.inr (by omega), this.2⟩
            have HHB := Lib.hid (HH.out.below HBW13.out)
            obtain ⟨al3, hal3⟩ : ∃ a, a = al ++ [JAct.app nm B, JAct.sync nm] := ⟨_, rfl⟩
            have hall : al3.length ≤ 1000010 := by
             rw [hal3, List.length_append, ← HVLEN.out]
             simp
             omega
            have hco : costs al3 ≤ 1001048601 := by
             rw [hal3, costs_append, HCOST.out]
             simp [costs, JAct.cost]
             omega
            rw [← hal3] at hA13
            have hAC := jacts_any (E := fun x => (G1 x ∨ (Value.slice Ab B.length cb').ownBlock = some x ∨ (w8.heap.size ≤ x ∧ x < w12.heap.size)) ∨ (Value.slice Ad3 vs3.length cd3).ownBlock = some x) HHB.out.disk (HJ0.out.below HB13.out (by omega)) HH.out.lo Ad3 vs3 al3 cd3 ((own_blkF hA13.own).mono (fun x hx => .inr hx)) hA13.len (fun k h h' => (hA13.acts k h h').mono (fun x hx => .inl hx)) (fun x hx => by
             have h1 := hEs x hx
             refine ⟨h1.2, ?_⟩
             rcases h1.1 with h2 | h2
             ·exact ⟨(HH.out.apart x h2).2.2.2, (HH.out.apart x h2).2.2.1⟩
             ·exact ⟨fun hf => by have := (HH.out.disk.lt x hf).2; omega, by omega⟩) (fun w' hb' => HE.out w' ((HBW13.out.mono hbw).trans hb')) (L := L) (by rw [DkD.eta' d HH.out.fs]; exact HOK.out) (by omega) (by omega)
            rw [DkD.eta' d HH.out.fs, ← hA13.len] at hAC
            obtain ⟨rc, d3, hR⟩ : ∃ rc d3, runJ al3 d = (rc, d3) := ⟨_, _, rfl⟩
            rw [hR] at hAC
            have HRC : Hid (saveJ j d l = (rc, if rc = 0 then { j with segs := ssP ++ [s1] } else { j with bad := rc }, d3)) := Lib.hid (by rw [HSV4.out, ← HNM.out, ← hal3, hR])
            dsimp only at hAC
            have HAC := Lib.hid hAC
            have HSG13 : Hid (∃ F5 : Nat → Prop, SegsAt w13 F5 w0.heap.size (.slice (some ⟨ab, ao, none⟩) (mp + 1) c5) (adsP ++ [⟨tb, 0, none⟩]) (ssP ++ [s1]) ∧ ∀ x, F5 x ∨ (Value.slice (some ⟨ab, ao, none⟩) (mp + 1) c5).ownBlock = some x → F x ∨ w.heap.size ≤ x) := Lib.hid (by
             refine ⟨_, HSG.out.keep' (by omega) (fun x hx => ?_), fun x hx => ?_⟩
             ·have hx1 : x < wr.heap.size ∧ (Value.slice Ad1 vs1.length cd1).ownBlock ≠ some x := by
               refine ⟨?_, fun e => ?_⟩
               ·rcases hx with hx | hx
                ·exact HSG.out.lt x hx
                ·exact (HWRL.out x (.inl hx)).2
               ·exact HFAR.out x hx e
              exact (hg13.block x (by omega) (fun e => hx1.2 e.symm)).trans ((HBF.out.block x (by omega)).trans (HB88.out.block x hx1.1))
             ·exact HFROM.out x hx)
            clear hA13 hAC hR hal3 hown13 hg13 hf13 hEs HACF HJP2 HJS HRA HBF HBF2 HSV4
            refine hK.out _ _ (HSX.out _ HB13.out) (fun hHeld => ?_)
            clear hK K
            try simp only [Act.put, List.setIfInBounds_toArray, List.set_cons_zero, List.set_cons_succ]
            refine held_sole 13 (by simp) (by kernel_rfl) (fun K hK => ?_)
            simp only [List.getElem_cons_zero, List.getElem_cons_succ]
            go_simp
            refine HAC.out.mono ?_
            rintro e w14 ⟨rfl, es3, hD10, hS10, hJ10, hF10, hg10⟩
            have hs14 := hF10.size
            have hFR : Fr (fun k => DFoot g m es k ∨ k = gj) w w14 := (Fr.of_below _ HBW13.out).trans hF10 (fun j hj => .inl hj)
            have HFR := Lib.hid hFR
            have HD10 := Lib.hid hD10
            have HS10 := Lib.hid hS10
            have HJ10 := Lib.hid hJ10
            have HG10 := Lib.hid (show ∀ k, DFoot g m es3 k → DFoot g m es k ∨ w13.heap.size ≤ k from hg10)
            obtain ⟨F5, hSG5, hF5⟩ := HSG13.out
            have HST : Hid (∀ x, F5 x ∨ (Value.slice (some ⟨ab, ao, none⟩) (mp + 1) c5).ownBlock = some x → w14.heap[x]? = w13.heap[x]? ∧ (F x ∨ w.heap.size ≤ x) ∧ x < w13.heap.size ∧ x ≠ gj ∧ ¬ DFoot g m es3 x) := Lib.hid (fun x hx => by
             have h1 : (F x ∨ w.heap.size ≤ x) ∧ x < w13.heap.size := by
              refine ⟨hF5 x hx, ?_⟩
              rcases hx with hx | hx
              ·exact hSG5.lt x hx
              ·exact (hSG5.own.lt x hx).2
             have h2 : x ≠ gj ∧ ¬ DFoot g m es x := by
              rcases h1.1 with h3 | h3
              ·exact (HH.out.apart x h3).2.2
              ·exact ⟨by omega, fun hf => by have := (HH.out.disk.lt x hf).2; omega⟩
             refine ⟨hF10.block x h1.2 (by rintro (h3 | h3); exact h2.2 h3; exact h2.1 h3), h1.1, h1.2, h2.1, fun hf => ?_⟩
             rcases hg10 x hf with h3 | h3
             ·exact h2.2 h3
             ·omega)
            have HS14 := Lib.hid (hSG5.keep' hs14 (fun x hx => (HST.out x hx).1))
            have hbx : w14.heap[w.heap.size]? = w13.heap[w.heap.size]? := hF10.block _ (by omega) (by rintro (h3 | h3); (have := (HH.out.disk.lt _ h3).2; omega); omega)
            have b14 : w14.cell? ⟨w.heap.size, 0, none⟩ = some (.pointer (some ⟨gj, 0, none⟩)) := (World.cell?_of_block hbx).trans (HSX.out w13 HB13.out).1
            have j2 : w14.cell? ⟨gj, 2, none⟩ = some (.slice A nl c) := HJ10.out.cell 2
            have j4 : w14.cell? ⟨gj, 4, none⟩ = some (.int .i64 rc) := HJ10.out.cell 4
            have z2 : w14.frozen? ⟨gj, 2, none⟩ = false := HJ10.out.frozen _
            have hmps : mp + 1 = (ssP ++ [s1]).length := by
             have h1 := HS14.out.own.shape
             obtain ⟨_, _, e1, _⟩ := h1
             injection e1 with _ e1 _
             rw [e1, List.length_map, HS14.out.len]
            clear hD10 hS10 hJ10 hF10 hg10 hFR HAC hSG5 hF5 hbx
            refine hK.out _ _ ⟨b14, trivial, trivial, trivial⟩ (fun hHeld => ?_)
            clear hK K
            try simp only [Act.put, List.setIfInBounds_toArray, List.set_cons_zero, List.set_cons_succ]
            refine held_take 14 (v := ?_) (by simp) (by kernel_rfl) (by kernel_rfl) (by kernel_rfl) (fun _ _ _ h => h) (Or.inl ⟨by rfl, ?_⟩) hHeld ?_
            case refine_2 => (intro w hSw; (try dsimp only at hSw); (try (obtain ⟨s0, s1, s2, s3⟩ := hSw)); simp only [List.getElem_cons_zero, List.getElem_cons_succ]; go_simp <;> with_reducible rfl)
            simp only [List.getElem_cons_zero, List.getElem_cons_succ, Act.put, List.setIfInBounds_toArray, List.set_cons_zero, List.set_cons_succ]
            refine wpAnyH_done (by kernel_rfl) ?_ _
            clear hHeld
            have HMPS := Lib.hid hmps
            clear hmps
            by_cases hz : rc = 0
            ·subst hz
             have HR2 := Lib.hid (HRC.out.trans (by rw [if_pos rfl] : _ = ((0 : Int), (⟨j.term, j.vote, ssP ++ [s1], j.bad⟩ : JnP), d3)))
             clear HRC
             have hgs := grown_setCell w14 gj 2 (.slice (some ⟨ab, ao, none⟩) (mp + 1) c5)
             have hBS := HJ10.out.set_ 2 (.slice (some ⟨ab, ao, none⟩) (mp + 1) c5)
             have b15 : (w14.setCell ⟨gj, 2, none⟩ (.slice (some ⟨ab, ao, none⟩) (mp + 1) c5)).cell? ⟨w.heap.size, 0, none⟩ = some (.pointer (some ⟨gj, 0, none⟩)) := (World.cell?_of_block (hgs.block w.heap.size (by omega) (fun e => by injection e with e; omega))).trans b14
             have j5 : (w14.setCell ⟨gj, 2, none⟩ (.slice (some ⟨ab, ao, none⟩) (mp + 1) c5)).cell? ⟨gj, 4, none⟩ = some (.int .i64 0) := hBS.cell 4
             have HBS := Lib.hid hBS
             have HGS := Lib.hid hgs
             clear hgs hBS
             go_wp2_with fail
             go_ret
             have hne : ∀ k, (Value.slice (some ⟨ab, ao, none⟩) (mp + 1) c5).ownBlock = some k → k ≠ gj := fun k hk => (HST.out k (.inr hk)).2.2.2.1
             have hSS := HS14.out.other HGS.out (by
              cases hq : (Value.slice (some ⟨ab, ao, none⟩) (mp + 1) c5).ownBlock with
              | none => exact .inl rfl
              | some q => exact .inr (fun e => by injection e with e; exact hne q hq e)) (fun r hr hx => by injection hr with hr; exact (HST.out r (.inl hx)).2.2.2.1 hr.symm)
             have hJA := hSS.jat0 (t := j.term) (v := j.vote) (bad := j.bad) (gj := gj) (g := g) (by have h := HBS.out; rw [← HJB.out]; exact h) (by rw [← HMPS.out]; omega) HJN.out.1 HJN.out.2
             exact HH.out.acted (es2 := es3) (F' := fun x => F5 x ∨ (Value.slice (some ⟨ab, ao, none⟩) (mp + 1) c5).ownBlock = some x) (HFR.out.trans (Fr.of_grown (mine := fun k => k = gj) HGS.out (fun k e => by injection e with e; exact e.symm)) (fun k hk => .inl (.inr hk))) (HD10.out.keep HGS.out.size (fun k hk => HGS.out.block k (HD10.out.lt k hk).2 (fun e => by injection e with e; subst e; exact HD10.out.not_foot HJ10.out (by decide) (by decide) (by decide) hk))) HS10.out (fun k hk => (HG10.out k hk).imp id (fun h => by have := HBW13.out.size; omega)) hJA (fun x hx => ⟨(HST.out x hx).2.1, by have := (HST.out x hx).2.2.1; have := HGS.out.size; omega, (HST.out x hx).2.2.2⟩) hbw HR2.out
            ·have hbn : (rc == 0) = false := by simpa using hz
             have HR2 := Lib.hid (HRC.out.trans (by rw [if_neg hz] : _ = (rc, (⟨j.term, j.vote, j.segs, rc⟩ : JnP), d3)))
             clear HRC hz
             go_wp2_with fail
             go_ret
             obtain ⟨sv, hB1, htn⟩ := HH.out.jn.turn
             have hsv : sv = .slice A nl c := by
              have e0 := HB0.out.block gj hgj
              have e := hB1.symm.trans (e0.symm.trans HJ0.out)
              injection e with e
              injection e with e _ _
              have e2 := congrArg (fun a : Array Value => a[2]?) e
              simpa using e2
             subst hsv
             have hFk : ∀ k, F k → w14.heap[k]? = w.heap[k]? ∧ k < w14.heap.size ∧ k ≠ gj ∧ ¬ DFoot g m es3 k := fun k hk => by
              have h1 := HH.out.apart k hk
              have := HFR.out.size
              refine ⟨HFR.out.block k h1.2.1 (by rintro (h3 | h3); exact h1.2.2.2 h3; exact h1.2.2.1 h3), by omega, h1.2.2.1, fun hf => ?_⟩
              rcases HG10.out k hf with h3 | h3
              ·exact h1.2.2.2 h3
              ·have := HBW13.out.size; omega
             exact HH.out.acted (es2 := es3) (F' := F) HFR.out HD10.out HS10.out (fun k hk => (HG10.out k hk).imp id (fun h => by have := HBW13.out.size; omega)) (htn w14 j.term j.vote rc HFR.out.size (fun k hk => (hFk k hk).1) HJ10.out HJN.out.1 HJN.out.2) (fun k hk => ⟨.inl hk, (hFk k hk).2⟩) hbw HR2.out
  ·have hmn : (mj != 0) = true := bne_iff_ne.2 hm
   have HR := Lib.hid (show saveJ j d l = (mj, j, d) by unfold saveJ; rw [if_neg (by rw [← HJB.out]; simp), if_pos (by rw [← HMJ.out]; exact hm), HMJ.out])
   clear hm
   go_wp2_with fail
   go_ret
   exact HH.out.same HBW1.out HR.out
 ·have hbn : (jb != 0) = true := bne_iff_ne.2 hb
  have HR := Lib.hid (show saveJ j d l = (jb, j, d) by unfold saveJ; rw [if_pos (by rw [← HJB.out]; exact hb), HJB.out])
  clear hb HMAY
  go_wp2_with fail
  go_ret
  exact HH.out.same HB0.out HR.out
end Go.Proofs.YtgeofijddhflaaaGreatDoor
