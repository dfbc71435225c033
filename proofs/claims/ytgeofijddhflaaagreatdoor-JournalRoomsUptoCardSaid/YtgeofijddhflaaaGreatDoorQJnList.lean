/- journal.list: the segments of a disk, rising. Condition: the disk is a call's own, up, within bounds. -/
import Derived.Test.YtgeofijddhflaaaGreatDoorQJnSame
import Derived.Test.YtgeofijddhflaaaGreatDoorQJnSort
import Derived.Test.YtgeofijddhflaaaGreatDoorQJnMay
import Derived.Test.YtgeofijddhflaaaGreatDoorQDiskNames
import Derived.Test.YtgeofijddhflaaaGreatDoorQDiskFiles
import Derived.BigQuiet
import Derived.Deep.CutBlock
set_option linter.unusedVariables false
set_option linter.unusedSimpArgs false
namespace Go.Proofs.YtgeofijddhflaaaGreatDoor
open Go.RowKit Go.Maps Oct
set_option maxHeartbeats 4000000 in
set_option maxRecDepth 100000 in
theorem jlist_any {w : World} {base g m : Nat} {p : PWD} {room : Int} {es : List (Nm × FE)} (h : DiskAt w base g m p room es) (hl : es.length ≤ 1099511627776) (hn : ∀ q ∈ es, q.1.length ≤ 1000) (hfb : ∀ q ∈ es, q.2.f.b.length ≤ 1000000000) (hoff : p.off = false) (hE : ErrR w) :
    Calls Tryz.prog 50 #[.pointer (some ⟨g, 0, none⟩)] w fun e w' => Below w.heap.size w w' ∧ ∃ v, e = .returned (.tuple #[v, .bool (listJ (dkOf p room es)).isSome]) ∧
      ∀ l, listJ (dkOf p room es) = some l → ∃ recs : List FndR, w'.ownsRow w.heap.size 106 6 v recs.length (fCells recs) ∧ recs.map FndR.o = l ∧ ∀ q ∈ recs, FndOk w' w.heap.size q := by
  have HNM := Lib.hid (names_any h (by omega))
  have H := Lib.hid h
  have HE := Lib.hid hE
  have HHN := Lib.hid hn
  have HFB := Lib.hid hfb
  have HOFF := Lib.hid hoff
  have HRI := Lib.hid h.rising
  clear h hE hn hfb hoff
  go_enter Tryz.func50, Tryz.ntmps50
  go_wp2_with fail
  refine HNM.out.mono ?_
  rintro e w1 ⟨v1, rfl, hv1, hb1⟩
  obtain ⟨A1, c1, rfl, hc1, hc2, hr1⟩ := hv1.shape
  rw [List.length_map] at hc1
  rw [List.length_map]
  have hs1 := hb1.size
  have HR1 := Lib.hid hr1
  have HB1 := Lib.hid hb1
  clear hr1 hv1 hb1 HNM
  go_upto_block 0 with fail
  go_cut [4] from 4 to 43 (fun v wx => ∃ recs : List FndR, recs.length ≤ es.length ∧ Hid (wx.ownsRow w1.heap.size 106 6 v recs.length (fCells recs)) ∧ Hid (listFiles (sec FE.f es) = some (recs.map FndR.o)) ∧ Hid (∀ q ∈ recs, FndOk wx w1.heap.size q) ∧ Hid (Below w1.heap.size w1 wx))
  case first =>
   go_wp2_with fail
   go_loopw [17, 4, 6, 7, 8, 9, 10, 11] (fun i v _ _ _ _ _ _ wr => ∃ (k : Nat) (recs : List FndR), k ≤ es.length ∧ i = .int .i64 k ∧ recs.length ≤ k ∧ Hid (wr.ownsRow w1.heap.size 106 6 v recs.length (fCells recs)) ∧ Hid (listFiles ((sec FE.f es).take k) = some (recs.map FndR.o)) ∧ Hid (∀ q ∈ recs, FndOk wr w1.heap.size q) ∧ Hid (Below w1.heap.size w1 wr)) (fun i _ _ _ _ _ _ _ _ => es.length - (intOf i).toNat)
   case atStart => exact ⟨0, [], by omega, rfl, Nat.le_refl _, Lib.hid (World.ownsRow_nil _ _ _ _), Lib.hid rfl, Lib.hid (fun q hq => by cases hq), Lib.hid (Below.refl _ _)⟩
   case round =>
     obtain ⟨k, recs, hk, rfl, hrk, HO, HL, HF, HB⟩ := hrel
     have hwr := HB.out.size
     obtain ⟨Av, cv, hv, hx⟩ := jrow_shape HO.out
     subst hv
     clear hx
     by_cases hlt : k < es.length
     · obtain ⟨ad, rfl, hab, hca⟩ := (HR1.out.below HB.out).at_ (k := k) (by rw [List.length_map]; exact hlt)
       rw [List.getElem_map] at hca
       have hmem := List.getElem_mem hlt
       obtain ⟨nm, hnm⟩ : ∃ nm, nm = es[k].1 := ⟨_, rfl⟩
       obtain ⟨fb, hfb⟩ : ∃ fb, fb = es[k].2.f.b := ⟨_, rfl⟩
       obtain ⟨kn, hkn⟩ : ∃ kn, kn = jNum nm := ⟨_, rfl⟩
       have hfl : fb.length ≤ 1000000000 := by rw [hfb]; exact HFB.out _ hmem
       have hnl : nm.length ≤ 1000 := by rw [hnm]; exact HHN.out _ hmem
       have hkr : 0 ≤ kn ∧ kn ≤ 999999999 := by rw [hkn]; exact jNum_range nm
       have htake : (sec FE.f es).take (k + 1) = (sec FE.f es).take k ++ [(nm, es[k].2.f)] := by
         rw [List.take_add_one, List.getElem?_eq_getElem (by simpa using hlt), hnm]
         unfold sec
         rw [List.getElem_map]
         rfl
       have hstep : listFiles ((sec FE.f es).take (k + 1)) = if kn = 0 then some (recs.map FndR.o) else (readSeg kn fb).map fun s => recs.map FndR.o ++ [s] := by
         rw [htake, listFiles_snoc, HL.out, hkn, hfb]
         rfl
       have HST := Lib.hid hstep
       have hrdd : (dkOf p room es).read nm = (fb, 0) := by
         have hget : asGet nm (sec FE.f es) = some es[k].2.f := by
           rw [asGet_sec, hnm, asGet_at HRI.out hlt]
           rfl
         unfold DkD.read
         rw [if_neg (by rw [show (dkOf p room es).pw.off = p.off from rfl, HOFF.out]; simp)]
         rw [show (dkOf p room es).fs = sec FE.f es from rfl, hget, hfb]
       have hsz : (str nm).size = nm.length := str_size nm
       have HNB := Lib.hid (jnumber_any (str nm) (by omega) wr ((HE.out.below HB1.out).below HB.out))
       rw [show (str nm).data.toList = nm from by simp [str], ← hkn] at HNB
       have HD1 := Lib.hid ((H.out.below HB1.out).below HB.out)
       rw [← hnm] at hca
       have HRDD := Lib.hid hrdd
       clear hstep hrdd htake hmem hkn hfb hnm
       go_wp2_with fail
       refine HNB.out.mono ?_
       rintro e w2 ⟨rfl, hb2⟩
       have hs2 := hb2.size
       have HD2 := Lib.hid (HD1.out.below hb2)
       have HB2 := Lib.hid (HB.out.trans (hb2.mono hwr))
       have HO2 := Lib.hid (frow_below HO.out hb2)
       have HF2 := Lib.hid (fun q hq => (HF.out q hq).below hb2)
       clear hb2 HD1 HB HO HF HNB hca
       by_cases h0 : kn = 0
       · subst h0
         have HS0 := Lib.hid (HST.out.trans (if_pos rfl))
         clear HST HRDD HD2
         go_wp2_with fail
         go_roundw
         case rel => exact ⟨k + 1, recs, by omega, by go_num, by omega, HO2, HS0, HF2, HB2⟩
         case measure => simp [intOf]; omega
       · have HS0 := Lib.hid (HST.out.trans (if_neg h0))
         clear HST
         have HRD := Lib.hid (dread_any HD2.out (str nm) (by omega) (fun q hq => by have := HFB.out q hq; omega))
         rw [show (str nm).data.toList = nm from by simp [str], HRDD.out] at HRD
         clear HD2 HRDD
         go_wp2_with fail
         refine HRD.out.mono ?_
         rintro e w3 ⟨v3, rfl, hv3, hb3⟩
         obtain ⟨A3, c3, rfl, q1, q2, q3⟩ := bs_shape hv3
         have hs3 := hb3.size
         have HB3 := Lib.hid (HB2.out.trans (hb3.mono (by have := HB2.out.size; omega)))
         have HO3 := Lib.hid (frow_below HO2.out hb3)
         have HF3 := Lib.hid (fun q hq => (HF2.out q hq).below hb3)
         have HRE := Lib.hid (jread_any kn (by omega) A3 fb c3 w3 (q3.more (by omega)) q1 (by omega) (by omega))
         clear hb3 hv3 q3 HB2 HO2 HF2 HRD
         go_wp2_with fail
         refine HRE.out.mono ?_
         rintro e w4 ⟨hb4, v4, rfl, ⟨a1, a2, a3, Al, nl, cl, Ae, ne, ce, tn, rfl⟩, hS⟩
         have hs4 := hb4.size
         have HB4 := Lib.hid (HB3.out.trans (hb4.mono (by have := HB3.out.size; omega)))
         have HO4 := Lib.hid (frow_below HO3.out hb4)
         have HF4 := Lib.hid (fun q hq => (HF3.out q hq).below hb4)
         have HS4 := Lib.hid hS
         clear hS HB3 HO3 HF3 HRE
         rcases hrs : readSeg kn fb with _ | ⟨sg, tn'⟩
         · rw [hrs] at HS0
           have HRS := Lib.hid hrs
           clear hrs HS4
           have hn0 : listJ (dkOf p room es) = none := by
             have h1 := listFiles_none (r := (sec FE.f es).drop (k + 1)) HS0.out
             rw [List.take_append_drop] at h1
             unfold listJ
             rw [show (dkOf p room es).fs = sec FE.f es from rfl, h1]
           have HBX := Lib.hid (HB1.out.trans ((HB4.out.trans ((Below.refl _ w4).alloc (by have := HB4.out.size; omega) (.cells #[.int .i64 a1, .int .i64 a2, .int .i64 a3, .slice Al nl cl, .slice Ae ne ce, .bool tn] 106))).mono hs1))
           have HN0 := Lib.hid hn0
           clear hn0 HS0 HB4 HF4 HO4
           go_wp2_with fail
           go_ret2
           exact ⟨HBX.out, _, by rw [HN0.out]; rfl, fun l h => by rw [HN0.out] at h; cases h⟩
         · obtain ⟨G, rs, vl, ve, hG, hSG, hv, hsk, hsf, hsl, hl1, hl2⟩ := HS4.out sg tn' hrs
           injection hv with hv
           have e1 : Value.int .i64 a1 = .int .i64 sg.k := by have := congrArg (fun a : Array Value => a[0]?) hv; simpa using this
           have e2 : Value.int .i64 a2 = .int .i64 sg.first := by have := congrArg (fun a : Array Value => a[1]?) hv; simpa using this
           have e3 : Value.int .i64 a3 = .int .i64 sg.term := by have := congrArg (fun a : Array Value => a[2]?) hv; simpa using this
           have e4 : Value.slice Al nl cl = vl := by have := congrArg (fun a : Array Value => a[3]?) hv; simpa using this
           have e5 : Value.slice Ae ne ce = ve := by have := congrArg (fun a : Array Value => a[4]?) hv; simpa using this
           have e6 : Value.bool tn = .bool tn' := by have := congrArg (fun a : Array Value => a[5]?) hv; simpa using this
           injection e1 with _ e1
           injection e2 with _ e2
           injection e3 with _ e3
           injection e6 with e6
           subst e1 e2 e3 e4 e5 e6
           have HSK := Lib.hid hsk
           clear hsk
           obtain ⟨_, _, e7, _⟩ := jrow_shape hSG.ents
           injection e7 with x1 e7 x2
           subst x1 e7 x2
           obtain ⟨_, _, e8, _⟩ := Own.shape hSG.ends
           injection e8 with x1 e8 x2
           rw [List.length_map] at e8
           subst x1 e8 x2
           rw [hrs] at HS0
           have HSG := Lib.hid hSG
           have HRS := Lib.hid hrs
           have hG4 : w3.heap.size ≤ G := hG
           clear hrs HS4 hSG hv
           obtain ⟨q, hq⟩ : ∃ q : FndR, q = ⟨sg, tn, Al, cl, Ae, ce, rs⟩ := ⟨_, rfl⟩
           have hqo : q.o = (sg, tn) := by rw [hq]; rfl
           have hqc : fOne q = [.int .i64 sg.k, .int .i64 sg.first, .int .i64 sg.term, .slice Al rs.length cl, .slice Ae sg.ends.length ce, .bool tn] := by rw [hq]; rfl
           have hqf : FndOk w4 w1.heap.size q := by
             have h1 := FndOk.of_sg (tn := tn) HSG.out
             rw [hq]
             exact h1.mono (by have := HB4.out.size; omega)
           have HQO := Lib.hid hqo
           have HQC := Lib.hid hqc
           have HQF := Lib.hid hqf
           clear hq hqo hqc hqf
           have hbA : Below w4.heap.size w4 ((w4.alloc (.cells #[.int .i64 sg.k, .int .i64 sg.first, .int .i64 sg.term, .slice Al rs.length cl, .slice Ae sg.ends.length ce, .bool tn] 106)).alloc (.cells #[.int .i64 sg.k, .int .i64 sg.first, .int .i64 sg.term, .slice Al rs.length cl, .slice Ae sg.ends.length ce, .bool tn] 106)) := ((Below.refl _ w4).alloc (Nat.le_refl _) _).alloc (by simp) _
           have HBA := Lib.hid hbA
           have hC := (blk_cells_at (Blk.new (w4.alloc (.cells #[.int .i64 sg.k, .int .i64 sg.first, .int .i64 sg.term, .slice Al rs.length cl, .slice Ae sg.ends.length ce, .bool tn] 106)) 106 #[.int .i64 sg.k, .int .i64 sg.first, .int .i64 sg.term, .slice Al rs.length cl, .slice Ae sg.ends.length ce, .bool tn]))
           rw [show (w4.alloc (.cells #[.int .i64 sg.k, .int .i64 sg.first, .int .i64 sg.term, .slice Al rs.length cl, .slice Ae sg.ends.length ce, .bool tn] 106)).heap.size = w4.heap.size + 1 from by simp] at hC
           have HC := Lib.hid hC
           clear hC
           have HO5 := Lib.hid (frow_below HO4.out hbA)
           have HF5 := Lib.hid (fun q hq => (HF4.out q hq).below hbA)
           have HQ5 := Lib.hid (HQF.out.below hbA)
           have HB5 := Lib.hid (HB4.out.trans (hbA.mono (by have := HB4.out.size; omega)))
           have hs5 := hbA.size
           have hs15 := HB5.out.size
           clear hbA HO4 HF4 HQF HB4
           go_wp2_with (at_builtin; go_must (refine wpList_append_size rfl (.tmp 39) (.tmp 41) 100 rfl w1.heap.size 106 (.agg #[.int .i64 0, .int .i64 0, .int .i64 0, .slice none 0 0, .slice none 0 0, .bool false]) 6 80 Tryz.underlying100 info_found rfl (by decide) _ recs.length (fCells recs) rfl HO5.out ⟨w4.heap.size + 1, 0, none⟩ 1 1 _ rfl rfl HC.out (by simp [Value.oneCell']) (by unfold maxLen; omega) (by omega) (by omega) ?_; intro v6 w6 hown6 hg6 hf6; have HO6 := Lib.hid hown6; have HG6 := Lib.hid hg6; clear hown6 hg6 hf6))
           go_roundw
           case rel =>
             have hb6 := Below.grown (Below.refl w1.heap.size _) HG6.out (by omega) (fun k hk => (World.ownsRow.lt HO5.out k hk).1)
             refine ⟨k + 1, recs ++ [q], by omega, by go_num, by simp; omega, Lib.hid ?_, Lib.hid ?_, Lib.hid ?_, Lib.hid (HB5.out.trans hb6)⟩
             · rw [List.length_append, fCells_append]
               have := HO6.out
               rw [show fCells [q] = fOne q from by simp [fCells], HQC.out]
               exact this
             · rw [HS0.out, List.map_append, List.map_cons, HQO.out]
               rfl
             · intro x hx
               rcases List.mem_append.1 hx with hx | hx
               · exact (HF5.out x hx).grown HO5.out HG6.out
               · obtain rfl := List.mem_singleton.1 hx
                 exact HQ5.out.grown HO5.out HG6.out
           case measure => simp [intOf]; omega
     · obtain rfl : k = es.length := by omega
       rw [List.take_of_length_le (by simp)] at HL
       go_wp2_with fail
       go_meet
       exact ⟨recs, hrk, HO, HL, HF, HB⟩
  case rest =>
    obtain ⟨recs, hrk, HO, HL, HF, HB⟩ := hcut
    have hwr := HB.out.size
    obtain ⟨Av, cv, hv, hx⟩ := jrow_shape HO.out
    subst hv
    clear hx
    have HSO := Lib.hid (jsort_any HO.out (by omega))
    go_wp2_with fail
    refine HSO.out.mono ?_
    rintro e w2 ⟨rfl, recs', hpm, hso, hown, hg⟩
    have hlen : recs.length = recs'.length := hpm.length_eq.symm
    have hLJ : listJ (dkOf p room es) = if listOk (recs'.map FndR.o) = true then some (recs'.map FndR.o) else none :=
      listJ_perm (d := dkOf p room es) HL.out (hpm.map _) (by rw [List.pairwise_map]; exact hso)
    have HLJ := Lib.hid hLJ
    have HF2 := Lib.hid (fun q (hq : q ∈ recs') => (HF.out q (hpm.mem_iff.1 hq)).grown HO.out hg)
    have HB2 := Lib.hid (Below.grown HB.out hg hwr (fun k hk => (World.ownsRow.lt HO.out k hk).1))
    have HNO := Lib.hid (fun q (hq : q ∈ recs') => ((listFiles_ok HL.out (fun q hq => by
      obtain ⟨x, hx, rfl⟩ := List.mem_map.1 hq
      exact HFB.out x hx)).2 q.o (List.mem_map.2 ⟨q, hpm.mem_iff.1 hq, rfl⟩)))
    have hs2 := HB2.out.size
    rw [hlen] at hown
    have HOW := Lib.hid hown
    have hN : recs'.length ≤ 1099511627776 := by omega
    rw [hlen]
    clear hLJ hpm hso hown hg HL HF HB HO HSO hlen
    go_wp2_with fail
    go_loopw [48, 12, 13] (fun i _ _ wr => ∃ k : Nat, k ≤ recs'.length ∧ i = .int .i64 k ∧ Hid (∀ j (h : j < recs'.length), j < k → lstOk recs' j h) ∧ Hid (Below w2.heap.size w2 wr)) (fun i _ _ _ => recs'.length - (intOf i).toNat)
    case atStart => exact ⟨0, by omega, rfl, Lib.hid (fun j h h0 => by omega), Lib.hid (Below.refl _ _)⟩
    case round =>
      obtain ⟨k, hk, rfl, HOK, HB3⟩ := hrel
      have hs3 := HB3.out.size
      by_cases hlt : k < recs'.length
      · obtain ⟨A, c, hv, hcc, hc, h3⟩ := jrow_shape (frow_below HOW.out HB3.out)
        obtain ⟨gr, cur, rfl, hgb, hgl, hgh, hgs, hgc⟩ := h3 (by omega)
        injection hv with hv hv2 hv'
        subst hv hv'
        clear hv2
        have hat : ∀ i (hi : i < recs'.length) j, j < 6 → (fCells recs')[i * 6 + j]? = (fOne recs'[i])[j]? := fun i hi j hj => fCells_at recs' hi hj
        have c0 : wr.cell? ⟨gr, k * 6, none⟩ = some (.int .i64 recs'[k].s.k) := hgc _ _ (hat k hlt 0 (by omega))
        have c1 : wr.cell? ⟨gr, k * 6 + 1, none⟩ = some (.int .i64 recs'[k].s.first) := hgc _ _ (hat k hlt 1 (by omega))
        have c2 : wr.cell? ⟨gr, k * 6 + 2, none⟩ = some (.int .i64 recs'[k].s.term) := hgc _ _ (hat k hlt 2 (by omega))
        have c3 : wr.cell? ⟨gr, k * 6 + 3, none⟩ = some (.slice recs'[k].al recs'[k].rs.length recs'[k].cl) := hgc _ _ (hat k hlt 3 (by omega))
        have c4 : wr.cell? ⟨gr, k * 6 + 4, none⟩ = some (.slice recs'[k].ae recs'[k].s.ends.length recs'[k].ce) := hgc _ _ (hat k hlt 4 (by omega))
        have c5 : wr.cell? ⟨gr, k * 6 + 5, none⟩ = some (.bool recs'[k].tn) := hgc _ _ (hat k hlt 5 (by omega))
        have hkn := HNO.out recs'[k] (List.getElem_mem hlt)
        have hkr : 1 ≤ recs'[k].s.k ∧ recs'[k].s.k ≤ 999999999 := hkn.2.1
        obtain ⟨ek, hek⟩ : ∃ x, x = recs'[k].s.k := ⟨_, rfl⟩
        obtain ⟨tk, htk⟩ : ∃ x, x = recs'[k].tn := ⟨_, rfl⟩
        obtain ⟨nk, hnk⟩ : ∃ x, x = recs'[k].s.ends.length := ⟨_, rfl⟩
        obtain ⟨B, hB⟩ : ∃ B : Bool, B = false ↔ lstOk recs' k hlt := by
          by_cases hh : lstOk recs' k hlt
          · exact ⟨false, by simp [hh]⟩
          · exact ⟨true, by simp [hh]⟩
        have HBB := Lib.hid hB
        have HEK := Lib.hid hek
        have HTK := Lib.hid htk
        have HNK := Lib.hid hnk
        obtain ⟨xf, hxf⟩ : ∃ x, x = recs'[k].s.first := ⟨_, rfl⟩
        obtain ⟨xt, hxt⟩ : ∃ x, x = recs'[k].s.term := ⟨_, rfl⟩
        obtain ⟨xl, hxl⟩ : ∃ x, x = recs'[k].al := ⟨_, rfl⟩
        obtain ⟨xn, hxn⟩ : ∃ x, x = recs'[k].rs.length := ⟨_, rfl⟩
        obtain ⟨xm, hxm⟩ : ∃ x, x = recs'[k].cl := ⟨_, rfl⟩
        obtain ⟨xa, hxa⟩ : ∃ x, x = recs'[k].ae := ⟨_, rfl⟩
        obtain ⟨xc, hxc⟩ : ∃ x, x = recs'[k].ce := ⟨_, rfl⟩
        rw [← hxf] at c1
        rw [← hxt] at c2
        rw [← hxl, ← hxn, ← hxm] at c3
        rw [← hxa, ← hxc] at c4
        clear hxf hxt hxl hxn hxm hxa hxc
        rw [← hek] at c0 hkr
        rw [← htk] at c5
        rw [← hnk] at c4
        have HKN := Lib.hid hkn
        have HGC := Lib.hid hgc
        clear hek htk hnk hB hkn hgc
        go_upto_region 17 with fail
        have hBX : Below wr.heap.size wr (wr.alloc (.cells #[.int .i64 ek, .int .i64 xf, .int .i64 xt, .slice xl xn xm, .slice xa nk xc, .bool tk] 106)) := (Below.refl _ wr).alloc (Nat.le_refl _) _
        have hBK := Blk.new wr 106 #[.int .i64 ek, .int .i64 xf, .int .i64 xt, .slice xl xn xm, .slice xa nk xc, .bool tk]
        have hne : nk = 0 ↔ recs'[k].s.ends = [] := by rw [HNK.out]; exact List.length_eq_zero_iff
        obtain ⟨wB, hwB⟩ : ∃ W, W = wr.alloc (.cells #[.int .i64 ek, .int .i64 xf, .int .i64 xt, .slice xl xn xm, .slice xa nk xc, .bool tk] 106) := ⟨_, rfl⟩
        rw [← hwB] at hBX hBK ⊢
        have b0 : wB.cell? ⟨wr.heap.size, 0, none⟩ = some (.int .i64 ek) := hBK.cell 0
        have b4 : wB.cell? ⟨wr.heap.size, 4, none⟩ = some (.slice xa nk xc) := hBK.cell 4
        have b5 : wB.cell? ⟨wr.heap.size, 5, none⟩ = some (.bool tk) := hBK.cell 5
        have HBX := Lib.hid hBX
        clear hwB hBX hBK
        go_cut [86] from 53 to 86 (fun c wx => c = .bool B ∧ Hid (Below wr.heap.size wr wx))
        case first =>
          clear c0 c1 c2 c3 c4 c5
          by_cases hk0 : 0 < k
          · have hd0 : decide (0 < k) = true := decide_eq_true hk0
            obtain ⟨j, hj⟩ : ∃ j, k = j + 1 := ⟨k - 1, by omega⟩
            have hjl : j < recs'.length := by omega
            have hdj : wr.cell? ⟨gr, j * 6, none⟩ = some (.int .i64 recs'[j].s.k) := HGC.out _ _ (hat j hjl 0 (by omega))
            have hprev : (recs'[k - 1]'(by omega)).s.k = recs'[j].s.k := by
              have e : k - 1 = j := by omega
              simp only [e]
            have HPV := Lib.hid hprev
            obtain ⟨ej, hej⟩ : ∃ x, x = recs'[j].s.k := ⟨_, rfl⟩
            have HEJ := Lib.hid hej
            rw [← hej] at hdj
            have hdB : wB.cell? ⟨gr, j * 6, none⟩ = some (.int .i64 ej) := (HBX.out.cell (p := ⟨gr, j * 6, none⟩) hgl).trans hdj
            clear hdj hej hprev
            by_cases h2 : ej = ek - 1
            · have H2 : Hid (∀ h0 : 0 < k, (recs'[k - 1]'(by omega)).s.k = recs'[k].s.k - 1) := Lib.hid (fun h0 => by rw [HPV.out, ← HEJ.out, ← HEK.out]; exact h2)
              have hbn : (ej != ek - 1) = false := by rw [bne_eq_false_iff_eq]; exact h2
              clear h2
              by_cases h1 : k + 1 < recs'.length
              · have hd : decide ((k : Int) < (recs'.length : Int) - 1) = true := decide_eq_true (by omega)
                have hd2 : decide ((j : Int) + 1 < (recs'.length : Int) - 1) = true := decide_eq_true (by omega)
                cases tk with
                | true =>
                  have HB1 : Hid (B = true) := Lib.hid (by
                    cases B with
                    | true => rfl
                    | false =>
                      have := (HBB.out.1 rfl).2 h1
                      rw [← HTK.out] at this
                      cases this.1)
                  clear hne HBB hat HGC HEK HTK HNK HKN h3 hgh hgs hgl hgb hs3 hs2 hwr hrk hc1 hc2 hs1 hl hc hcc HPV HEJ H2
                  go_big_quiet (fail)
                  go_wp2_with fail
                  go_meet
                  exact ⟨by first | (rw [HB1.out]; done) | (rw [HB1.out]; rfl) | (rw [HB1.out]; simpa using h4), Lib.hid (below_drewN HBX.out _)⟩
                | false =>
                  by_cases h4 : nk = 0
                  · have HB1 : Hid (B = true) := Lib.hid (by
                      cases B with
                      | true => rfl
                      | false => exact absurd (hne.1 h4) ((HBB.out.1 rfl).2 h1).2)
                    clear hne HBB hat HGC HEK HTK HNK HKN h3 hgh hgs hgl hgb hs3 hs2 hwr hrk hc1 hc2 hs1 hl hc hcc HPV HEJ H2
                    subst h4
                    go_big_quiet (fail)
                    go_wp2_with fail
                    go_meet
                    exact ⟨by first | (rw [HB1.out]; done) | (rw [HB1.out]; rfl) | (rw [HB1.out]; simpa using h4), Lib.hid (below_drewN HBX.out _)⟩
                  · have HB1 : Hid (B = false) := Lib.hid (HBB.out.2 ⟨H2.out, fun _ => ⟨HTK.out.symm, fun h => h4 (hne.2 h)⟩⟩)
                    clear hne HBB hat HGC HEK HTK HNK HKN h3 hgh hgs hgl hgb hs3 hs2 hwr hrk hc1 hc2 hs1 hl hc hcc HPV HEJ H2
                    go_big_quiet (fail)
                    go_wp2_with fail
                    go_meet
                    exact ⟨by first | (rw [HB1.out]; done) | (rw [HB1.out]; rfl) | (rw [HB1.out]; simpa using h4), Lib.hid (below_drewN HBX.out _)⟩
              · have hd : decide ((k : Int) < (recs'.length : Int) - 1) = false := decide_eq_false (by omega)
                have hd2 : decide ((j : Int) + 1 < (recs'.length : Int) - 1) = false := decide_eq_false (by omega)
                have HB1 : Hid (B = false) := Lib.hid (HBB.out.2 ⟨H2.out, fun h => absurd h h1⟩)
                clear hne HBB hat HGC HEK HTK HNK HKN h3 hgh hgs hgl hgb hs3 hs2 hwr hrk hc1 hc2 hs1 hl hc hcc HPV HEJ H2
                go_big_quiet (fail)
                go_wp2_with fail
                go_meet
                exact ⟨by first | (rw [HB1.out]; done) | (rw [HB1.out]; rfl) | (rw [HB1.out]; simpa using h4), Lib.hid (below_drewN HBX.out _)⟩
            · have HB1 : Hid (B = true) := Lib.hid (by
                cases B with
                | true => rfl
                | false =>
                  have := (HBB.out.1 rfl).1 hk0
                  rw [HPV.out, ← HEJ.out, ← HEK.out] at this
                  exact absurd this h2)
              have hbn : (ej != ek - 1) = true := bne_iff_ne.2 h2
              clear hne HBB hat HGC HEK HTK HNK HKN h3 hgh hgs hgl hgb hs3 hs2 hwr hrk hc1 hc2 hs1 hl hc hcc HPV HEJ
              go_big_quiet (fail)
              go_wp2_with fail
              go_meet
              exact ⟨by first | (rw [HB1.out]; done) | (rw [HB1.out]; rfl) | (rw [HB1.out]; simpa using h4), Lib.hid (below_drewN HBX.out _)⟩
          · have hd0 : decide (0 < k) = false := decide_eq_false hk0
            by_cases h1 : k + 1 < recs'.length
            · have hd : decide ((k : Int) < (recs'.length : Int) - 1) = true := decide_eq_true (by omega)
              cases tk with
              | true =>
                have HB1 : Hid (B = true) := Lib.hid (by
                  cases B with
                  | true => rfl
                  | false =>
                    have := (HBB.out.1 rfl).2 h1
                    rw [← HTK.out] at this
                    cases this.1)
                clear hne HBB hat HGC HEK HTK HNK HKN h3 hgh hgs hgl hgb hs3 hs2 hwr hrk hc1 hc2 hs1 hl hc hcc
                go_big_quiet (fail)
                go_wp2_with fail
                go_meet
                exact ⟨by first | (rw [HB1.out]; done) | (rw [HB1.out]; rfl) | (rw [HB1.out]; simpa using h4), Lib.hid (below_drewN HBX.out _)⟩
              | false =>
                by_cases h4 : nk = 0
                · have HB1 : Hid (B = true) := Lib.hid (by
                    cases B with
                    | true => rfl
                    | false => exact absurd (hne.1 h4) ((HBB.out.1 rfl).2 h1).2)
                  clear hne HBB hat HGC HEK HTK HNK HKN h3 hgh hgs hgl hgb hs3 hs2 hwr hrk hc1 hc2 hs1 hl hc hcc
                  subst h4
                  go_big_quiet (fail)
                  go_wp2_with fail
                  go_meet
                  exact ⟨by first | (rw [HB1.out]; done) | (rw [HB1.out]; rfl) | (rw [HB1.out]; simpa using h4), Lib.hid (below_drewN HBX.out _)⟩
                · have HB1 : Hid (B = false) := Lib.hid (HBB.out.2 ⟨fun h0 => absurd h0 hk0, fun _ => ⟨HTK.out.symm, fun h => h4 (hne.2 h)⟩⟩)
                  clear hne HBB hat HGC HEK HTK HNK HKN h3 hgh hgs hgl hgb hs3 hs2 hwr hrk hc1 hc2 hs1 hl hc hcc
                  go_big_quiet (fail)
                  go_wp2_with fail
                  go_meet
                  exact ⟨by first | (rw [HB1.out]; done) | (rw [HB1.out]; rfl) | (rw [HB1.out]; simpa using h4), Lib.hid (below_drewN HBX.out _)⟩
            · have hd : decide ((k : Int) < (recs'.length : Int) - 1) = false := decide_eq_false (by omega)
              have HB1 : Hid (B = false) := Lib.hid (HBB.out.2 ⟨fun h0 => absurd h0 hk0, fun h => absurd h h1⟩)
              clear hne HBB hat HGC HEK HTK HNK HKN h3 hgh hgs hgl hgb hs3 hs2 hwr hrk hc1 hc2 hs1 hl hc hcc
              go_big_quiet (fail)
              go_wp2_with fail
              go_meet
              exact ⟨by first | (rw [HB1.out]; done) | (rw [HB1.out]; rfl) | (rw [HB1.out]; simpa using h4), Lib.hid (below_drewN HBX.out _)⟩
        case rest =>
          obtain ⟨rfl, HW⟩ := hcut
          have HBW := Lib.hid (HB3.out.trans (HW.out.mono hs3))
          clear c0 c1 c2 c3 c4 c5 b0 b4 b5 HBX hne HEK HTK HNK HKN HGC h3 hgh hgs hcc hc hat
          cases B with
          | true =>
            have hno : listJ (dkOf p room es) = none := by
              rw [HLJ.out, if_neg]
              intro h
              have := HBB.out.2 ((lstOk_all recs').1 h k hlt)
              cases this
            have HNO2 := Lib.hid hno
            have HBF := Lib.hid (HB1.out.trans ((HB2.out.trans (HBW.out.mono hs2)).mono hs1))
            clear hno
            go_wp2_with fail
            go_ret2
            exact ⟨HBF.out, _, by rw [HNO2.out]; rfl, fun l h => by rw [HNO2.out] at h; cases h⟩
          | false =>
            have HOK2 : Hid (∀ j (h : j < recs'.length), j < k + 1 → lstOk recs' j h) := Lib.hid (fun j h h0 => by
              by_cases e : j = k
              · subst e
                exact HBB.out.1 rfl
              · exact HOK.out j h (by omega))
            go_wp2_with fail
            go_roundw
            case rel => exact ⟨k + 1, by omega, by go_num, HOK2, HBW⟩
            case measure => simp [intOf]; omega
      · obtain rfl : k = recs'.length := by omega
        have hyes : listJ (dkOf p room es) = some (recs'.map FndR.o) := by
          rw [HLJ.out, if_pos ((lstOk_all recs').2 fun j h => HOK.out j h h)]
        have HY := Lib.hid hyes
        have HBF := Lib.hid (HB1.out.trans ((HB2.out.trans (HB3.out.mono hs2)).mono hs1))
        clear hyes
        go_wp2_with fail
        go_ret2
        refine ⟨HBF.out, _, by rw [HY.out]; rfl, fun l h => ?_⟩
        rw [HY.out] at h
        injection h with h
        subst h
        exact ⟨recs', frow_mono (frow_below HOW.out HB3.out) hs1, rfl, fun q hq => ((HF2.out q hq).below HB3.out).mono hs1⟩
end Go.Proofs.YtgeofijddhflaaaGreatDoor
