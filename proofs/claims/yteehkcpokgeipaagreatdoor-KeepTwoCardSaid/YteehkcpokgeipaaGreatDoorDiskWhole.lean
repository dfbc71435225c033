/- Remove and Rename of a disk (disk.whole beneath them). Condition: the disk is a call's own; names at most 2^47 bytes. -/
import Derived.Test.YteehkcpokgeipaaGreatDoorDiskDel
set_option linter.unusedVariables false
namespace Go.Proofs.YteehkcpokgeipaaGreatDoor
open Go.RowKit Go.Maps Go.Sort Oct

theorem tmod2 (n : Int) : n.tmod 2 = 0 ↔ n % 2 = 0 := by
  have h1 := Int.mul_tdiv_add_tmod n 2
  have h2 : -2 < n.tmod 2 := Int.lt_tmod_of_pos n (by omega)
  have h3 : n.tmod 2 < 2 := Int.tmod_lt_of_pos n (by omega)
  omega
section
variable {w w1 w2 w' : World} {base g m : Nat} {p p' : PWD} {room : Int} {es : List (Nm × FE)}
theorem DiskAt.not_foot (h : DiskAt w base g m p room es) {b : Nat} {T : TypeId} {cs : Array Value} (hB : Blk w b T cs) (h1 : T ≠ 53) (h2 : T ≠ 109) (h3 : T ≠ 5) : ¬ DFoot g m es b := by
  rintro (e | e | ⟨q, hq, e | e⟩)
  · exact blk_ne hB h.blk h1 e
  · exact map_ne hB h.map e
  · exact blk_ne hB (h.file q hq) h2 e
  · exact got_blk_ne (h.got q hq) hB h3 e
theorem Fr.blk_ {mine : Nat → Prop} (hf : Fr mine w w') {b : Nat} {T : TypeId} {cs : Array Value} (hB : Blk w b T cs) (hn : ¬ mine b) : Blk w' b T cs := (hf.block b hB.lt hn).trans hB
theorem DiskTo.step {es' : List (Nm × FE)} {d : DkD} (hf : Fr (DFoot g m es) w w1) (hfoot : ∀ k, DFoot g m es' k → DFoot g m es k ∨ w1.heap.size ≤ k) (h : DiskTo w1 base g m es' d w2) : DiskTo w base g m es d w2 := by
  obtain ⟨es2, h1, h2, h3, h4⟩ := h
  refine ⟨es2, h1, h2, hf.trans h3 (fun j hj => by
    rcases hfoot j hj with h5 | h5
    · exact .inl h5
    · exact .inr (Nat.le_trans hf.size h5)), fun k hk => ?_⟩
  rcases h4 k hk with h5 | h5
  · rcases hfoot k h5 with h6 | h6
    · exact .inl h6
    · exact .inr (Nat.le_trans hf.size h6)
  · exact .inr (Nat.le_trans hf.size h5)
theorem DiskTo.at_ {es' : List (Nm × FE)} (h : DiskAt w' base g m p room es') (hf : Fr (DFoot g m es) w w') (hfoot : ∀ k, DFoot g m es' k → DFoot g m es k ∨ w.heap.size ≤ k) : DiskTo w base g m es ⟨p, room, sec FE.f es'⟩ w' := ⟨es', h, rfl, hf, hfoot⟩

set_option maxHeartbeats 2000000 in
set_option maxRecDepth 100000 in
theorem whole_rm (h : DiskAt w base g m p room es) (s : ByteArray) (hs : s.size ≤ 140737488351232) (b1 b2 : Nat) (h1 : Blk w b1 24 #[.pointer (some ⟨g, 0, none⟩)]) (h2 : Blk w b2 9 #[.string s]) :
    Calls Tryz.prog 58 #[.pointer (some ⟨g, 0, none⟩), .func (.func 59) #[] #[.pointer (some ⟨b1, 0, none⟩), .pointer (some ⟨b2, 0, none⟩)]] w fun e w' => e = .returned (.int .i64 ((dkOf p room es).whole (asDel s.data.toList (sec FE.f es))).1) ∧ DiskTo w base g m es ((dkOf p room es).whole (asDel s.data.toList (sec FE.f es))).2 w' := by
  have hcut := Lib.hid (dcut_any h)
  have HB := Lib.hid (And.intro h (And.intro h1 h2))
  obtain ⟨c, hc⟩ : ∃ c, c = p.cut := ⟨_, rfl⟩
  obtain ⟨gone, part, p'⟩ := c
  rw [← hc] at hcut
  have HDO : ∀ w1, DiskAt w1 base g m p' room es → Fr (DFoot g m es) w w1 → Hid (Calls Tryz.prog 59 #[.pointer (some ⟨b1, 0, none⟩), .pointer (some ⟨b2, 0, none⟩)] w1 fun e w' => e = .returned (.tuple #[]) ∧ DiskTo w base g m es ⟨p', room, asDel s.data.toList (sec FE.f es)⟩ w') := fun w1 hD hF => Lib.hid (by
    obtain ⟨h, k0, k1⟩ := HB.out
    refine (dremove1_any hD s hs b1 b2 (hF.blk_ k0 (h.not_foot k0 (by decide) (by decide) (by decide))) (hF.blk_ k1 (h.not_foot k1 (by decide) (by decide) (by decide)))).mono ?_
    rintro e w' ⟨rfl, h4, h5⟩
    refine ⟨rfl, ?_⟩
    rw [← asDel_sec]
    exact DiskTo.at_ h4 (hF.trans h5 (fun j hj => .inl hj)) (fun k hk => .inl (foot_del hk)))
  have hdo : (if (gone = false ∨ part % 2 ≠ 0) then True else True) := by split <;> trivial
  clear hdo
  cases gone with
  | false =>
    have e : (dkOf p room es).whole (asDel s.data.toList (sec FE.f es)) = (0, ⟨p', room, asDel s.data.toList (sec FE.f es)⟩) := by unfold DkD.whole; rw [← hc]; simp
    rw [e]
    clear h e hc HB
    go_enter Tryz.func58, Tryz.ntmps58
    go_wp2_with fail
    refine hcut.out.mono ?_
    rintro e w1 ⟨rfl, hD, hF, hsz⟩
    have hdo := HDO w1 hD hF
    clear hD hF hsz hcut HDO
    go_wp2_with fail
    refine hdo.out.mono ?_
    rintro e w2 ⟨rfl, hT⟩
    have HT := Lib.hid hT
    clear hT hdo
    go_wp2_with fail
    go_ret
    exact ⟨rfl, HT.out⟩
  | true =>
    by_cases hp : part % 2 = 0
    · have e : (dkOf p room es).whole (asDel s.data.toList (sec FE.f es)) = (50, dkOf p' room es) := by unfold DkD.whole; rw [← hc]; simp [hp]
      rw [e]
      have hpt2 : part.tmod 2 = 0 := (tmod2 part).2 hp
      have hpt : (part.tmod 2 != 0) = false := by simp [hpt2]
      clear h e hc HB HDO hp
      go_enter Tryz.func58, Tryz.ntmps58
      go_wp2_with fail
      refine hcut.out.mono ?_
      rintro e w1 ⟨rfl, hD, hF, hsz⟩
      have HT := Lib.hid (DiskTo.mk' hD hF)
      clear hD hF hsz hcut
      go_wp2_with fail
      go_ret
      exact ⟨rfl, HT.out⟩
    · have e : (dkOf p room es).whole (asDel s.data.toList (sec FE.f es)) = (50, ⟨p', room, asDel s.data.toList (sec FE.f es)⟩) := by unfold DkD.whole; rw [← hc]; simp [hp]
      rw [e]
      have hpt2 : ¬ part.tmod 2 = 0 := fun e => hp ((tmod2 part).1 e)
      have hpt : (part.tmod 2 != 0) = true := by simpa using hpt2
      clear h e hc HB hp
      go_enter Tryz.func58, Tryz.ntmps58
      go_wp2_with fail
      refine hcut.out.mono ?_
      rintro e w1 ⟨rfl, hD, hF, hsz⟩
      have hdo := HDO w1 hD hF
      clear hD hF hsz hcut HDO
      go_wp2_with fail
      refine hdo.out.mono ?_
      rintro e w2 ⟨rfl, hT⟩
      have HT := Lib.hid hT
      clear hT hdo
      go_wp2_with fail
      go_ret
      exact ⟨rfl, HT.out⟩
set_option maxHeartbeats 2000000 in
set_option maxRecDepth 100000 in
theorem whole_rn (h : DiskAt w base g m p room es) (s t : ByteArray) (hs : s.size ≤ 140737488351232) (ht : t.size ≤ 140737488351232) {fe : FE} (hfe : asGet s.data.toList es = some fe) (b1 b2 b3 b4 : Nat) (h1 : Blk w b1 24 #[.pointer (some ⟨g, 0, none⟩)]) (h2 : Blk w b2 9 #[.string s]) (h3 : Blk w b3 69 #[.pointer (some ⟨fe.blk, 0, none⟩)]) (h4 : Blk w b4 9 #[.string t]) (hl : es.length < 4398046511104) :
    Calls Tryz.prog 58 #[.pointer (some ⟨g, 0, none⟩), .func (.func 63) #[] #[.pointer (some ⟨b1, 0, none⟩), .pointer (some ⟨b2, 0, none⟩), .pointer (some ⟨b3, 0, none⟩), .pointer (some ⟨b4, 0, none⟩)]] w fun e w' => e = .returned (.int .i64 ((dkOf p room es).whole (asPut t.data.toList fe.f (asDel s.data.toList (sec FE.f es)))).1) ∧ DiskTo w base g m es ((dkOf p room es).whole (asPut t.data.toList fe.f (asDel s.data.toList (sec FE.f es)))).2 w' := by
  have hcut := Lib.hid (dcut_any h)
  have HB := Lib.hid (And.intro h (And.intro h1 (And.intro h2 (And.intro h3 h4))))
  obtain ⟨c, hc⟩ : ∃ c, c = p.cut := ⟨_, rfl⟩
  obtain ⟨gone, part, p'⟩ := c
  rw [← hc] at hcut
  have HDO : ∀ w1, DiskAt w1 base g m p' room es → Fr (DFoot g m es) w w1 → Hid (Calls Tryz.prog 63 #[.pointer (some ⟨b1, 0, none⟩), .pointer (some ⟨b2, 0, none⟩), .pointer (some ⟨b3, 0, none⟩), .pointer (some ⟨b4, 0, none⟩)] w1 fun e w' => e = .returned (.tuple #[]) ∧ DiskTo w base g m es ⟨p', room, asPut t.data.toList fe.f (asDel s.data.toList (sec FE.f es))⟩ w') := fun w1 hD hF => Lib.hid (by
    obtain ⟨h, k0, k1, k2, k3⟩ := HB.out
    refine (drename1_any hD s t hs ht hfe b1 b2 b3 b4 (hF.blk_ k0 (h.not_foot k0 (by decide) (by decide) (by decide))) (hF.blk_ k1 (h.not_foot k1 (by decide) (by decide) (by decide))) (hF.blk_ k2 (h.not_foot k2 (by decide) (by decide) (by decide))) (hF.blk_ k3 (h.not_foot k3 (by decide) (by decide) (by decide))) hl).mono ?_
    rintro e w' ⟨rfl, h4, h5, h6⟩
    refine ⟨rfl, ?_⟩
    rw [← asDel_sec, ← asPut_sec FE.f]
    exact DiskTo.at_ h4 (hF.trans h5 (fun j hj => .inl hj)) (fun k hk => by
      rcases h6 k hk with h7 | h7
      · exact .inl h7
      · exact .inr (Nat.le_trans hF.size h7)))
  have hdo : (if (gone = false ∨ part % 2 ≠ 0) then True else True) := by split <;> trivial
  clear hdo
  cases gone with
  | false =>
    have e : (dkOf p room es).whole (asPut t.data.toList fe.f (asDel s.data.toList (sec FE.f es))) = (0, ⟨p', room, asPut t.data.toList fe.f (asDel s.data.toList (sec FE.f es))⟩) := by unfold DkD.whole; rw [← hc]; simp
    rw [e]
    clear h e hc HB
    go_enter Tryz.func58, Tryz.ntmps58
    go_wp2_with fail
    refine hcut.out.mono ?_
    rintro e w1 ⟨rfl, hD, hF, hsz⟩
    have hdo := HDO w1 hD hF
    clear hD hF hsz hcut HDO
    go_wp2_with fail
    refine hdo.out.mono ?_
    rintro e w2 ⟨rfl, hT⟩
    have HT := Lib.hid hT
    clear hT hdo
    go_wp2_with fail
    go_ret
    exact ⟨rfl, HT.out⟩
  | true =>
    by_cases hp : part % 2 = 0
    · have e : (dkOf p room es).whole (asPut t.data.toList fe.f (asDel s.data.toList (sec FE.f es))) = (50, dkOf p' room es) := by unfold DkD.whole; rw [← hc]; simp [hp]
      rw [e]
      have hpt2 : part.tmod 2 = 0 := (tmod2 part).2 hp
      have hpt : (part.tmod 2 != 0) = false := by simp [hpt2]
      clear h e hc HB HDO hp
      go_enter Tryz.func58, Tryz.ntmps58
      go_wp2_with fail
      refine hcut.out.mono ?_
      rintro e w1 ⟨rfl, hD, hF, hsz⟩
      have HT := Lib.hid (DiskTo.mk' hD hF)
      clear hD hF hsz hcut
      go_wp2_with fail
      go_ret
      exact ⟨rfl, HT.out⟩
    · have e : (dkOf p room es).whole (asPut t.data.toList fe.f (asDel s.data.toList (sec FE.f es))) = (50, ⟨p', room, asPut t.data.toList fe.f (asDel s.data.toList (sec FE.f es))⟩) := by unfold DkD.whole; rw [← hc]; simp [hp]
      rw [e]
      have hpt2 : ¬ part.tmod 2 = 0 := fun e => hp ((tmod2 part).1 e)
      have hpt : (part.tmod 2 != 0) = true := by simpa using hpt2
      clear h e hc HB hp
      go_enter Tryz.func58, Tryz.ntmps58
      go_wp2_with fail
      refine hcut.out.mono ?_
      rintro e w1 ⟨rfl, hD, hF, hsz⟩
      have hdo := HDO w1 hD hF
      clear hD hF hsz hcut HDO
      go_wp2_with fail
      refine hdo.out.mono ?_
      rintro e w2 ⟨rfl, hT⟩
      have HT := Lib.hid hT
      clear hT hdo
      go_wp2_with fail
      go_ret
      exact ⟨rfl, HT.out⟩
end
end Go.Proofs.YteehkcpokgeipaaGreatDoor
