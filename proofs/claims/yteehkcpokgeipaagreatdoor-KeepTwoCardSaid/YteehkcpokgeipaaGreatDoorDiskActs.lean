/- The disk's acts: Read, Sync, Remove, Rename. Condition: the disk is a call's own; names at most 2^47 bytes. -/
import Derived.Test.YteehkcpokgeipaaGreatDoorDiskOp
import Derived.Test.YteehkcpokgeipaaGreatDoorKeepRead
set_option linter.unusedVariables false
namespace Go.Proofs.YteehkcpokgeipaaGreatDoor
open Go.RowKit Go.Maps Go.Sort Oct

theorem wp_del_ptr {P : Program} {k e : TypeId} {w : World} {m : Nat} {l : List (Nm × Nat)} {o : Oper} {a : Act} {K : Act → World → Prop} {Q : Exit → Act → World → Prop} (mo xo : Operand) (t : TypeId) (hop : o.op = Op.call { callee := Callee.builtin Builtin.delete, args := #[mo, xo], argTypes := #[t, k] }) (hk : P.underlying k = some .string) (ht : P.underlying t = some (.map k e)) (h : MapAt P k w m l) (s : ByteArray) (hs : s.size ≤ maxLen)
    (hm : a.eval mo = .map (some m)) (hx : a.eval xo = .string s) (hK : ∀ w', MapAt P k w' m (asDel s.data.toList l) → w.grownBy w' (some m) → K (a.put o.dst (.tuple #[])) w') : o.wp P a w K Q := by
  obtain ⟨w', hrun, r1, r2⟩ := h.del hk ht s hs o.type
  unfold Oper.wp
  simp [execOp, hop, resolve, invoke, builtin, hm, hx, hrun, Result.andThen]
  exact hK w' r1 r2
section
variable {w w1 w2 w' : World} {base g m : Nat} {p p' : PWD} {room : Int} {es : List (Nm × FE)}
theorem foot_file {n : Nm} {fe : FE} (h : asGet n es = some fe) : DFoot g m es fe.blk := .inr (.inr ⟨_, asGet_some h, .inl rfl⟩)
theorem foot_row {n : Nm} {fe : FE} (h : asGet n es = some fe) {k : Nat} (hk : fe.v.ownBlock = some k) : DFoot g m es k := .inr (.inr ⟨_, asGet_some h, .inr hk⟩)
theorem DiskTo.file_set (h1 : DiskAt w1 base g m p' room es) (hf1 : Fr (DFoot g m es) w w1) {n : Nm} {fe : FE} (hn : asGet n es = some fe) (v : Value) (f : FD) (hs : w1.heap.size ≤ w2.heap.size) (hblk : Blk w2 fe.blk 109 #[v, .int .i64 f.safe]) (hgot : Got w2 base v f.b) (hsafe : f.safe ≤ f.b.length)
    (hrow : ∀ k, v.ownBlock = some k → fe.v.ownBlock = some k ∨ w1.heap.size ≤ k) (hfr : ∀ k, k < w1.heap.size → k ≠ fe.blk → fe.v.ownBlock ≠ some k → w2.heap[k]? = w1.heap[k]?) (hos : w2.os = w1.os ∧ w2.tape = w1.tape ∧ w2.output = w1.output) :
    DiskTo w base g m es ⟨p', room, asPut n f (sec FE.f es)⟩ w2 :=
  ⟨asPut n ⟨fe.blk, v, f⟩ es, h1.file_set hn v f hs hblk hgot hsafe hrow hfr, by rw [asPut_sec], hf1.trans ⟨hos.1, hos.2.1, hos.2.2, hs, fun k hk hm => hfr k hk (fun e => hm (by rw [e]; exact foot_file hn)) (fun e => hm (foot_row hn e))⟩ (fun j hj => .inl hj),
    fun k hk => foot_put hk (fun e => .inl (by have e' : fe.blk = k := e; rw [← e']; exact foot_file hn)) (fun e => by
      rcases hrow k e with h2 | h2
      · exact .inl (foot_row hn h2)
      · exact .inr (Nat.le_trans hf1.size h2))⟩
theorem asGet_f {n : Nm} (h : asGet n es = none) : asGet n (sec FE.f es) = none := by rw [asGet_sec, h]; rfl
theorem asGet_fs {n : Nm} {fe : FE} (h : asGet n es = some fe) : asGet n (sec FE.f es) = some fe.f := by rw [asGet_sec, h]; rfl
set_option maxHeartbeats 1000000 in
theorem dsync_any (h : DiskAt w base g m p room es) (s : ByteArray) (hs : s.size ≤ 140737488351232) :
    Calls Tryz.prog 23 #[.pointer (some ⟨g, 0, none⟩), .string s] w fun e w' => e = .returned (.int .i64 ((dkOf p room es).sync s.data.toList).1) ∧ DiskTo w base g m es ((dkOf p room es).sync s.data.toList).2 w' := by
  have H := Lib.hid h
  by_cases ho : p.off = true
  · have e : (dkOf p room es).sync s.data.toList = (50, dkOf p room es) := by unfold DkD.sync; rw [if_pos ho]
    rw [e]
    have hfind := Lib.hid (find_down h s hs ho)
    clear h e
    go_enter Tryz.func23, Tryz.ntmps23
    go_wp2_with fail
    refine hfind.out.mono ?_
    rintro e w' ⟨rfl, rfl⟩
    go_wp2_with fail
    go_ret
    exact ⟨rfl, DiskTo.mk' H.out (Fr.refl _ _)⟩
  · have ho' : p.off = false := by simpa using ho
    cases hg : asGet s.data.toList es with
    | none =>
      have e : (dkOf p room es).sync s.data.toList = (51, dkOf p room es) := by unfold DkD.sync; rw [if_neg ho]; simp only [asGet_f hg]
      rw [e]
      have hfind := Lib.hid (find_none h s hs hg ho')
      clear h e
      go_enter Tryz.func23, Tryz.ntmps23
      go_wp2_with fail
      refine hfind.out.mono ?_
      rintro e w' ⟨rfl, rfl⟩
      go_wp2_with fail
      go_ret
      exact ⟨rfl, DiskTo.mk' H.out (Fr.refl _ _)⟩
    | some fe =>
      obtain ⟨c, hc⟩ : ∃ c, c = p.cut := ⟨_, rfl⟩
      obtain ⟨gone, part, p'⟩ := c
      have hfind := Lib.hid (find_found h s hs hg ho')
      have hcut := Lib.hid (dcut_any h)
      rw [← hc] at hcut
      cases gone with
      | true =>
        have e : (dkOf p room es).sync s.data.toList = (50, dkOf p' room es) := by unfold DkD.sync; rw [if_neg ho]; simp only [asGet_fs hg]; rw [← hc]; rfl
        rw [e]
        clear h e ho ho' hg hc
        go_enter Tryz.func23, Tryz.ntmps23
        go_wp2_with fail
        refine hfind.out.mono ?_
        rintro e w' ⟨rfl, rfl⟩
        go_wp2_with fail
        refine hcut.out.mono ?_
        rintro e w1 ⟨rfl, hD, hF, hsz⟩
        have HD := Lib.hid (DiskTo.mk' hD hF)
        clear hD hF hsz hfind hcut
        go_wp2_with fail
        go_ret
        exact ⟨rfl, HD.out⟩
      | false =>
        have e : (dkOf p room es).sync s.data.toList = (0, ⟨p', room, asPut s.data.toList ⟨fe.f.b, fe.f.b.length⟩ (sec FE.f es)⟩) := by unfold DkD.sync; rw [if_neg ho]; simp only [asGet_fs hg]; rw [← hc]; rfl
        rw [e]
        have HG := Lib.hid hg
        clear h e ho ho' hg hc
        go_enter Tryz.func23, Tryz.ntmps23
        go_wp2_with fail
        refine hfind.out.mono ?_
        rintro e w' ⟨rfl, rfl⟩
        go_wp2_with fail
        refine hcut.out.mono ?_
        rintro e w1 ⟨rfl, hD, hF, hsz⟩
        have hmem := asGet_some HG.out
        have hK : Blk w1 fe.blk 109 #[fe.v, .int .i64 fe.f.safe] := hD.file _ hmem
        have hgt : Got w1 base fe.v fe.f.b := hD.got _ hmem
        obtain ⟨A, c, hv, _, _, _⟩ := hgt.shape
        have c0 : w1.cell? ⟨fe.blk, 0, none⟩ = some fe.v := hK.cell 0
        have c1 : w1.cell? ⟨fe.blk, 1, none⟩ = some (.int .i64 fe.f.safe) := hK.cell 1
        have f1 := hK.frozen 1
        rw [hv] at c0
        have hg1 := grown_setCell w1 fe.blk 1 (.int .i64 (fe.f.b.length : Int))
        have hfin : DiskTo w base g m es ⟨p', room, asPut s.data.toList ⟨fe.f.b, fe.f.b.length⟩ (sec FE.f es)⟩ (w1.setCell ⟨fe.blk, 1, none⟩ (.int .i64 (fe.f.b.length : Int))) :=
          DiskTo.file_set hD hF HG.out fe.v ⟨fe.f.b, fe.f.b.length⟩ (by simp) (Blk.set_ hK 1 _) (hgt.kept (fun q hq => Below.heap_setCell w1 _ _ q (fun e => got_blk_ne hgt hK (by decide) (by rw [hq, e]))) (by simp)) (Nat.le_refl _) (fun k hk => .inl hk) (fun k hk h1 h2 => Below.heap_setCell w1 _ _ k (fun e => h1 e)) ⟨hg1.os, hg1.tape, hg1.output⟩
        have HFIN := Lib.hid hfin
        clear hfin hD hF hK hgt hv hmem hsz hg1 hfind hcut
        go_wp2_with fail
        go_ret
        exact ⟨rfl, HFIN.out⟩
set_option maxHeartbeats 1000000 in
theorem dread_any (h : DiskAt w base g m p room es) (s : ByteArray) (hs : s.size ≤ 140737488351232) (hlen : ∀ q ∈ es, q.2.f.b.length ≤ 140737488351232) :
    Calls Tryz.prog 16 #[.pointer (some ⟨g, 0, none⟩), .string s] w fun e w' => ∃ v, e = .returned (.tuple #[v, .int .i64 ((dkOf p room es).read s.data.toList).2]) ∧ Bs w' w.heap.size v ((dkOf p room es).read s.data.toList).1 ∧ Below w.heap.size w w' := by
  by_cases ho : p.off = true
  · have e : (dkOf p room es).read s.data.toList = ([], 50) := by unfold DkD.read; rw [if_pos ho]
    rw [e]
    have hfind := Lib.hid (find_down h s hs ho)
    clear h e
    go_enter Tryz.func16, Tryz.ntmps16
    go_wp2_with fail
    refine hfind.out.mono ?_
    rintro e w' ⟨rfl, rfl⟩
    go_wp2_with fail
    go_ret2
    exact ⟨_, rfl, Own.nil _ _ _, Below.refl _ _⟩
  · have ho' : p.off = false := by simpa using ho
    cases hg : asGet s.data.toList es with
    | none =>
      have e : (dkOf p room es).read s.data.toList = ([], 51) := by unfold DkD.read; rw [if_neg ho]; simp only [asGet_f hg]
      rw [e]
      have hfind := Lib.hid (find_none h s hs hg ho')
      clear h e
      go_enter Tryz.func16, Tryz.ntmps16
      go_wp2_with fail
      refine hfind.out.mono ?_
      rintro e w' ⟨rfl, rfl⟩
      go_wp2_with fail
      go_ret2
      exact ⟨_, rfl, Own.nil _ _ _, Below.refl _ _⟩
    | some fe =>
      have e : (dkOf p room es).read s.data.toList = (fe.f.b, 0) := by unfold DkD.read; rw [if_neg ho]; simp only [asGet_fs hg]
      rw [e]
      have hfind := Lib.hid (find_found h s hs hg ho')
      have hmem := asGet_some hg
      have hK : Blk w fe.blk 109 #[fe.v, .int .i64 fe.f.safe] := h.file _ hmem
      obtain ⟨A, c, hv, hc1, hc2, hrd⟩ := (h.got _ hmem).shape
      have hv' : fe.v = .slice A fe.f.b.length c := hv
      have c0 : w.cell? ⟨fe.blk, 0, none⟩ = some fe.v := hK.cell 0
      rw [hv'] at c0
      have hl := hlen _ hmem
      have hcl := Lib.hid (clone_any A fe.f.b fe.f.b.length c rfl w hrd hl)
      clear h e ho ho' hg hK hv hv' hrd hlen hmem hl
      go_enter Tryz.func16, Tryz.ntmps16
      go_wp2_with fail
      refine hfind.out.mono ?_
      rintro e w' ⟨rfl, rfl⟩
      go_wp2_with fail
      refine hcl.out.mono ?_
      rintro e w1 ⟨v, rfl, hov, hb⟩
      obtain ⟨A1, c1, rfl, _, _, _⟩ := bs_shape hov
      have HV := Lib.hid (And.intro hov hb)
      clear hov hb hcl hfind
      go_wp2_with fail
      go_ret2
      exact ⟨_, rfl, HV.out.1, HV.out.2⟩
end
end Go.Proofs.YteehkcpokgeipaaGreatDoor
