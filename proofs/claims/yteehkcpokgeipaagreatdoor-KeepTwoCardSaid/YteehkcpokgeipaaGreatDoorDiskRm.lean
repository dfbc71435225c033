/- Remove and Rename of a disk. Condition: the disk is a call's own; names at most 2^47 bytes. -/
import Derived.Test.YteehkcpokgeipaaGreatDoorDiskWhole
set_option linter.unusedVariables false
namespace Go.Proofs.YteehkcpokgeipaaGreatDoor
open Go.RowKit Go.Maps Go.Sort Oct

section
variable {w w1 w2 w' : World} {base g m : Nat} {p p' : PWD} {room : Int} {es : List (Nm × FE)}
set_option maxHeartbeats 2000000 in
set_option maxRecDepth 100000 in
theorem dremove_any (h : DiskAt w base g m p room es) (s : ByteArray) (hs : s.size ≤ 140737488351232) :
    Calls Tryz.prog 19 #[.pointer (some ⟨g, 0, none⟩), .string s] w fun e w' => e = .returned (.int .i64 ((dkOf p room es).remove s.data.toList).1) ∧ DiskTo w base g m es ((dkOf p room es).remove s.data.toList).2 w' := by
  have hbA := ((Below.refl w.heap.size w).alloc (Nat.le_refl _) (.cells #[.pointer (some ⟨g, 0, none⟩)] 24)).alloc (by simp) (.cells #[.string s] 9)
  have hsz : (w.alloc (.cells #[.pointer (some ⟨g, 0, none⟩)] 24)).heap.size = w.heap.size + 1 := by simp
  have hK1 := (Blk.new w 24 #[.pointer (some ⟨g, 0, none⟩)]).alloc (.cells #[.string s] 9)
  have hK2 := Blk.new (w.alloc (.cells #[.pointer (some ⟨g, 0, none⟩)] 24)) 9 #[.string s]
  rw [hsz] at hK2
  have hA := h.below hbA
  have e1 := hK1.cell 0
  have e2 := hK2.cell 0
  simp only [List.getElem?_toArray, List.getElem?_cons_zero] at e1 e2
  have HB := Lib.hid (Fr.of_below (DFoot g m es) hbA)
  have HK := Lib.hid (And.intro hK1 hK2)
  by_cases ho : p.off = true
  · have e : (dkOf p room es).remove s.data.toList = (50, dkOf p room es) := by unfold DkD.remove; rw [if_pos ho]
    rw [e]
    have hfind := Lib.hid (find_down hA s hs ho)
    have HA := Lib.hid hA
    clear h e hA hbA hK1 hK2 hsz
    go_enter Tryz.func19, Tryz.ntmps19
    go_wp2_with fail
    refine hfind.out.mono ?_
    rintro e w' ⟨rfl, rfl⟩
    go_wp2_with fail
    go_ret
    exact ⟨rfl, DiskTo.mk' HA.out HB.out⟩
  · have ho' : p.off = false := by simpa using ho
    cases hg : asGet s.data.toList es with
    | none =>
      have e : (dkOf p room es).remove s.data.toList = (51, dkOf p room es) := by unfold DkD.remove; rw [if_neg ho]; simp only [asGet_f hg]
      rw [e]
      have hfind := Lib.hid (find_none hA s hs hg ho')
      have HA := Lib.hid hA
      clear h e hA hbA hK1 hK2 hsz
      go_enter Tryz.func19, Tryz.ntmps19
      go_wp2_with fail
      refine hfind.out.mono ?_
      rintro e w' ⟨rfl, rfl⟩
      go_wp2_with fail
      go_ret
      exact ⟨rfl, DiskTo.mk' HA.out HB.out⟩
    | some fe =>
      have e : (dkOf p room es).remove s.data.toList = (dkOf p room es).whole (asDel s.data.toList (sec FE.f es)) := by unfold DkD.remove; rw [if_neg ho]; simp only [asGet_fs hg]
      rw [e]
      have hfind := Lib.hid (find_found hA s hs hg ho')
      have hwh := Lib.hid (whole_rm hA s hs w.heap.size (w.heap.size + 1) hK1 hK2)
      obtain ⟨R, hR⟩ : ∃ R, R = (dkOf p room es).whole (asDel s.data.toList (sec FE.f es)) := ⟨_, rfl⟩
      rw [← hR] at hwh ⊢
      clear h e hA hbA hK1 hK2 hsz hg ho ho' hR
      go_enter Tryz.func19, Tryz.ntmps19
      go_wp2_with fail
      refine hfind.out.mono ?_
      rintro e w' ⟨rfl, rfl⟩
      go_wp2_with fail
      refine hwh.out.mono ?_
      rintro e w1 ⟨rfl, hT⟩
      have HT := Lib.hid (DiskTo.step HB.out (fun k hk => .inl hk) hT)
      clear hT hwh hfind
      go_wp2_with fail
      go_ret
      exact ⟨rfl, HT.out⟩
theorem nameB_false {t : Nm} (h : nameB t = false) : t = [] ∨ 32 < t.length := by
  by_cases h0 : t = []
  · exact .inl h0
  · right
    unfold nameB at h
    simp [h0] at h
    exact h
theorem nameB_true {t : Nm} (h : nameB t = true) : ¬ t = [] ∧ ¬ 32 < t.length := by
  unfold nameB at h
  simp at h
  exact ⟨h.1, by omega⟩
set_option maxHeartbeats 4000000 in
set_option maxRecDepth 100000 in
theorem drename_any (h : DiskAt w base g m p room es) (s t : ByteArray) (hs : s.size ≤ 140737488351232) (ht : t.size ≤ 140737488351232) (hl : es.length < 4398046511104) :
    Calls Tryz.prog 25 #[.pointer (some ⟨g, 0, none⟩), .string s, .string t] w fun e w' => e = .returned (.int .i64 ((dkOf p room es).rename s.data.toList t.data.toList).1) ∧ DiskTo w base g m es ((dkOf p room es).rename s.data.toList t.data.toList).2 w' := by
  have hbA := (((Below.refl w.heap.size w).alloc (Nat.le_refl _) (.cells #[.pointer (some ⟨g, 0, none⟩)] 24)).alloc (by simp) (.cells #[.string s] 9)).alloc (by simp; omega) (.cells #[.string t] 9)
  have hsz : (w.alloc (.cells #[.pointer (some ⟨g, 0, none⟩)] 24)).heap.size = w.heap.size + 1 := by simp
  have hsz2 : ((w.alloc (.cells #[.pointer (some ⟨g, 0, none⟩)] 24)).alloc (.cells #[.string s] 9)).heap.size = w.heap.size + 1 + 1 := by simp
  have hK1 := ((Blk.new w 24 #[.pointer (some ⟨g, 0, none⟩)]).alloc (.cells #[.string s] 9)).alloc (.cells #[.string t] 9)
  have hK2 := (Blk.new (w.alloc (.cells #[.pointer (some ⟨g, 0, none⟩)] 24)) 9 #[.string s]).alloc (.cells #[.string t] 9)
  have hK3 := Blk.new ((w.alloc (.cells #[.pointer (some ⟨g, 0, none⟩)] 24)).alloc (.cells #[.string s] 9)) 9 #[.string t]
  have hsz3 : (((w.alloc (.cells #[.pointer (some ⟨g, 0, none⟩)] 24)).alloc (.cells #[.string s] 9)).alloc (.cells #[.string t] 9)).heap.size = w.heap.size + 1 + 1 + 1 := by simp
  rw [hsz] at hK2
  rw [hsz2] at hK3
  have hA := h.below hbA
  have e1 := hK1.cell 0
  have e2 := hK2.cell 0
  have e3 := hK3.cell 0
  simp only [List.getElem?_toArray, List.getElem?_cons_zero] at e1 e2 e3
  have HB := Lib.hid (Fr.of_below (DFoot g m es) hbA)
  by_cases ho : p.off = true
  · have e : (dkOf p room es).rename s.data.toList t.data.toList = (50, dkOf p room es) := by unfold DkD.rename; rw [if_pos ho]
    rw [e]
    have hfind := Lib.hid (find_down hA s hs ho)
    have HA := Lib.hid (DiskTo.step HB.out (fun k hk => .inl hk) (DiskTo.mk' (hA.below ((Below.refl _ _).alloc (Nat.le_refl _) (.cells #[.pointer none] 69))) (Fr.of_below _ ((Below.refl _ _).alloc (Nat.le_refl _) _))))
    clear h e hA hbA hK1 hK2 hK3 hsz hsz2 hsz3
    go_enter Tryz.func25, Tryz.ntmps25
    go_wp2_with fail
    refine hfind.out.mono ?_
    rintro e w' ⟨rfl, rfl⟩
    go_wp2_with fail
    go_ret
    exact ⟨rfl, HA.out⟩
  · have ho' : p.off = false := by simpa using ho
    cases hg : asGet s.data.toList es with
    | none =>
      have e : (dkOf p room es).rename s.data.toList t.data.toList = (51, dkOf p room es) := by unfold DkD.rename; rw [if_neg ho]; simp only [asGet_f hg]
      rw [e]
      have hfind := Lib.hid (find_none hA s hs hg ho')
      have HA := Lib.hid (DiskTo.step HB.out (fun k hk => .inl hk) (DiskTo.mk' (hA.below ((Below.refl _ _).alloc (Nat.le_refl _) (.cells #[.pointer none] 69))) (Fr.of_below _ ((Below.refl _ _).alloc (Nat.le_refl _) _))))
      clear h e hA hbA hK1 hK2 hK3 hsz hsz2 hsz3
      go_enter Tryz.func25, Tryz.ntmps25
      go_wp2_with fail
      refine hfind.out.mono ?_
      rintro e w' ⟨rfl, rfl⟩
      go_wp2_with fail
      go_ret
      exact ⟨rfl, HA.out⟩
    | some fe =>
      have hfind := Lib.hid (find_found hA s hs hg ho')
      have hbF := (Below.refl _ (((w.alloc (.cells #[.pointer (some ⟨g, 0, none⟩)] 24)).alloc (.cells #[.string s] 9)).alloc (.cells #[.string t] 9))).alloc (Nat.le_refl _) (.cells #[.pointer (some ⟨fe.blk, 0, none⟩)] 69)
      have hF := hA.below hbF
      have hnm := Lib.hid (dname_any t ((((w.alloc (.cells #[.pointer (some ⟨g, 0, none⟩)] 24)).alloc (.cells #[.string s] 9)).alloc (.cells #[.string t] 9)).alloc (.cells #[.pointer (some ⟨fe.blk, 0, none⟩)] 69)) ht)
      have HF := Lib.hid (HB.out.trans (Fr.of_below (DFoot g m es) hbF) (fun j hj => .inl hj))
      have g1 := (hK1.alloc (.cells #[.pointer (some ⟨fe.blk, 0, none⟩)] 69))
      have g2 := (hK2.alloc (.cells #[.pointer (some ⟨fe.blk, 0, none⟩)] 69))
      have g3 := (hK3.alloc (.cells #[.pointer (some ⟨fe.blk, 0, none⟩)] 69))
      have g4 := Blk.new (((w.alloc (.cells #[.pointer (some ⟨g, 0, none⟩)] 24)).alloc (.cells #[.string s] 9)).alloc (.cells #[.string t] 9)) 69 #[.pointer (some ⟨fe.blk, 0, none⟩)]
      rw [hsz3] at g4
      have d1 := g1.cell 0
      have d2 := g2.cell 0
      have d3 := g3.cell 0
      have d4 := g4.cell 0
      simp only [List.getElem?_toArray, List.getElem?_cons_zero] at d1 d2 d3 d4
      cases hnb : nameB t.data.toList with
      | false =>
        have e : (dkOf p room es).rename s.data.toList t.data.toList = (1, dkOf p room es) := by
          unfold DkD.rename
          rw [if_neg ho]
          simp only [asGet_fs hg]
          rw [if_pos]
          rcases nameB_false hnb with h1 | h1
          · exact .inl h1
          · exact .inr (.inl h1)
        rw [e]
        rw [hnb] at hnm
        have HT := Lib.hid (DiskTo.mk' hF HF.out)
        clear h e hA hbA hK1 hK2 hK3 hsz hsz2 hsz3 hbF hF g1 g2 g3 g4 hg ho ho' hnb
        go_enter Tryz.func25, Tryz.ntmps25
        go_wp2_with fail
        refine hfind.out.mono ?_
        rintro e w' ⟨rfl, rfl⟩
        go_wp2_with fail
        refine hnm.out.mono ?_
        rintro e w' ⟨rfl, rfl⟩
        go_wp2_with fail
        go_ret
        exact ⟨rfl, HT.out⟩
      | true =>
        rw [hnb] at hnm
        obtain ⟨n1, n2⟩ := nameB_true hnb
        by_cases hst : s.data.toList = t.data.toList
        · have hst' : s = t := WideShapes.bytes_inj hst
          have e : (dkOf p room es).rename s.data.toList t.data.toList = (1, dkOf p room es) := by
            unfold DkD.rename
            rw [if_neg ho]
            simp only [asGet_fs hg]
            rw [if_pos (.inr (.inr hst))]
          rw [e]
          have HT := Lib.hid (DiskTo.mk' hF HF.out)
          subst hst'
          clear h e hA hbA hK1 hK2 hK3 hsz hsz2 hsz3 hbF hF g1 g2 g3 g4 hg ho ho' hnb n1 n2 hst
          go_enter Tryz.func25, Tryz.ntmps25
          go_wp2_with fail
          refine hfind.out.mono ?_
          rintro e w' ⟨rfl, rfl⟩
          go_wp2_with fail
          refine hnm.out.mono ?_
          rintro e w' ⟨rfl, rfl⟩
          go_wp2_with fail
          go_ret
          exact ⟨rfl, HT.out⟩
        · have hne : (s.toList == t.toList) = false := by
            rw [toList_eq, toList_eq]
            simpa using hst
          have e : (dkOf p room es).rename s.data.toList t.data.toList = (dkOf p room es).whole (asPut t.data.toList fe.f (asDel s.data.toList (sec FE.f es))) := by
            unfold DkD.rename
            rw [if_neg ho]
            simp only [asGet_fs hg]
            rw [if_neg]
            rintro (h1 | h1 | h1)
            · exact n1 h1
            · exact n2 h1
            · exact hst h1
          rw [e]
          have hwh := Lib.hid (whole_rn hF s t hs ht hg w.heap.size (w.heap.size + 1) (w.heap.size + 1 + 1 + 1) (w.heap.size + 1 + 1) g1 g2 g4 g3 hl)
          obtain ⟨R, hR⟩ : ∃ R, R = (dkOf p room es).whole (asPut t.data.toList fe.f (asDel s.data.toList (sec FE.f es))) := ⟨_, rfl⟩
          rw [← hR] at hwh ⊢
          clear h e hA hbA hK1 hK2 hK3 hsz hsz2 hsz3 hbF hF g1 g2 g3 g4 hg ho ho' hnb n1 n2 hst hR
          go_enter Tryz.func25, Tryz.ntmps25
          go_wp2_with fail
          refine hfind.out.mono ?_
          rintro e w' ⟨rfl, rfl⟩
          go_wp2_with fail
          refine hnm.out.mono ?_
          rintro e w' ⟨rfl, rfl⟩
          go_wp2_with fail
          refine hwh.out.mono ?_
          rintro e w1 ⟨rfl, hT⟩
          have HT := Lib.hid (DiskTo.step HF.out (fun k hk => .inl hk) hT)
          clear hT hwh hfind hnm
          go_wp2_with fail
          go_ret
          exact ⟨rfl, HT.out⟩
end
end Go.Proofs.YteehkcpokgeipaaGreatDoor
