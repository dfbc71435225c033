/- Remove and Rename of a disk. Condition: the disk is a call's own; names at most 2^47 bytes. -/
import Derived.Test.YtgeofijddhflaaaGreatDoorQDiskOp
import Derived.Test.YtgeofijddhflaaaGreatDoorQKeepSame
import Derived.Deep.DeepCutAuto
set_option linter.unusedVariables false
namespace Go.Proofs.YtgeofijddhflaaaGreatDoor
open Go.RowKit Go.Maps Go.Sort Oct
theorem wp_del_ptr {P : Program} {k e : TypeId} {w : World} {m : Nat} {l : List (Nm × Nat)} {o : Oper} {a : Act} {K : Act → World → Prop} {Q : Exit → Act → World → Prop} (mo xo : Operand) (t : TypeId) (hop : o.op = Op.call { callee := Callee.builtin Builtin.delete, args := #[mo, xo], argTypes := #[t, k] }) (hk : P.underlying k = some .string) (ht : P.underlying t = some (.map k e)) (h : MapAt P k w m l) (s : ByteArray) (hs : s.size ≤ maxLen)
  (hm : a.eval mo = .map (some m)) (hx : a.eval xo = .string s) (hK : ∀ w', MapAt P k w' m (asDel s.data.toList l) → w.grownBy w' (some m) → K (a.put o.dst (.tuple #[])) w') : o.wp P a w K Q := by
 obtain ⟨w', hrun, r1, r2⟩ := h.del hk ht s hs o.type
 unfold Oper.wp
 simp [execOp, hop, resolve, invoke, builtin, hm, hx, hrun, Result.andThen]
 exact hK w' r1 r2
section
variable {w w1 w2 w' : World} {base g m : Nat} {p p' : PWD} {room : Int} {es : List (Nm × FE)}
theorem foot_file {n : Nm} {fe : FE} (h : asGet n es = some fe) : DFoot g m es fe.blk := .inr (.inr ⟨_, asGet_some h, .inl rfl⟩)
theorem foot_row {n : Nm} {fe : FE} (h : asGet n es = some fe) {k : Nat} (hk : fe.v.ownBlock = some k) : DFoot g m es k := .inr (.inr ⟨_, asGet_some h, .inr hk⟩)
theorem DiskTo.file_set (h1 : DiskAt w1 base g m p' room es) (hf1 : Fr (DFoot g m es) w w1) {n : Nm} {fe : FE} (hn : asGet n es = some fe) (v : Value) (f : FD) (hs : w1.heap.size ≤ w2.heap.size) (hblk : Blk w2 fe.blk 83 #[v, .int .i64 f.safe]) (hgot : Got w2 base v f.b) (hsafe : f.safe ≤ f.b.length)
  (hrow : ∀ k, v.ownBlock = some k → fe.v.ownBlock = some k ∨ w1.heap.size ≤ k) (hfr : ∀ k, k < w1.heap.size → k ≠ fe.blk → fe.v.ownBlock ≠ some k → w2.heap[k]? = w1.heap[k]?) (hos : w2.os = w1.os ∧ w2.tape = w1.tape ∧ w2.output = w1.output) :
  DiskTo w base g m es ⟨p', room, asPut n f (sec FE.f es)⟩ w2 :=
 ⟨asPut n ⟨fe.blk, v, f⟩ es, h1.file_set hn v f hs hblk hgot hsafe hrow hfr, by rw [asPut_sec], hf1.trans ⟨hos.1, hos.2.1, hos.2.2, hs, fun k hk hm => hfr k hk (fun e => hm (by rw [e]; exact foot_file hn)) (fun e => hm (foot_row hn e))⟩ (fun j hj => .inl hj),
  fun k hk => foot_put hk (fun e => .inl (by have e' : fe.blk = k := e; rw [← e']; exact foot_file hn)) (fun e => by
   rcases hrow k e with h2 | h2
   ·exact .inl (foot_row hn h2)
   ·exact .inr (Nat.le_trans hf1.size h2))⟩
theorem asGet_f {n : Nm} (h : asGet n es = none) : asGet n (sec FE.f es) = none := by rw [asGet_sec, h]; rfl
theorem asGet_fs {n : Nm} {fe : FE} (h : asGet n es = some fe) : asGet n (sec FE.f es) = some fe.f := by rw [asGet_sec, h]; rfl
set_option maxHeartbeats 1000000 in
theorem dsync_any (h : DiskAt w base g m p room es) (s : ByteArray) (hs : s.size ≤ 140737488351232) :
  Calls Tryz.prog 110 #[.pointer (some ⟨g, 0, none⟩), .string s] w fun e w' => e = .returned (.int .i64 ((dkOf p room es).sync s.data.toList).1) ∧ DiskTo w base g m es ((dkOf p room es).sync s.data.toList).2 w' := by
 have H := Lib.hid h
 by_cases ho : p.off = true
 ·have e : (dkOf p room es).sync s.data.toList = (50, dkOf p room es) := by unfold DkD.sync; rw [if_pos ho]
  rw [e]
  have hfind := Lib.hid (find_down h s hs ho)
  clear h e
  go_enter Tryz.func110, Tryz.ntmps110
  go_wp2_with fail
  refine hfind.out.mono ?_
  rintro e w' ⟨rfl, rfl⟩
  go_wp2_with fail
  go_ret
  exact ⟨rfl, DiskTo.mk' H.out (Fr.refl _ _)⟩
 ·have ho' : p.off = false := by simpa using ho
  cases hg : asGet s.data.toList es with
  | none =>
   have e : (dkOf p room es).sync s.data.toList = (51, dkOf p room es) := by unfold DkD.sync; rw [if_neg ho]; simp only [asGet_f hg]
   rw [e]
   have hfind := Lib.hid (find_none h s hs hg ho')
   clear h e
   go_enter Tryz.func110, Tryz.ntmps110
   go_wp2_with fail
   refine hfind.out.mono ?_
   rintro e w' ⟨rfl, rfl⟩
   go_wp2_with fail
   go_ret
   exact ⟨rfl, DiskTo.mk' H.out (Fr.refl _ _)⟩
  | some fe =>
   obtain ⟨c, hc⟩ : ∃ c, c = p.cut := ⟨_, rfl⟩
   obtain ⟨gone, part, p'⟩ := c
   have hfind := Lib.hid (find_found h s hs hg ho')
   have hcut := Lib.hid (dcut_any h)
   rw [← hc] at hcut
   cases gone with
   | true =>
    have e : (dkOf p room es).sync s.data.toList = (50, dkOf p' room es) := by unfold DkD.sync; rw [if_neg ho]; simp only [asGet_fs hg]; rw [← hc]; rfl
    rw [e]
    clear h e ho ho' hg hc
    go_enter Tryz.func110, Tryz.ntmps110
    go_wp2_with fail
    refine hfind.out.mono ?_
    rintro e w' ⟨rfl, rfl⟩
    go_wp2_with fail
    refine hcut.out.mono ?_
    rintro e w1 ⟨rfl, hD, hF, hsz⟩
    have HD := Lib.hid (DiskTo.mk' hD hF)
    clear hD hF hsz hfind hcut
    go_wp2_with fail
    go_ret
    exact ⟨rfl, HD.out⟩
   | false =>
    have e : (dkOf p room es).sync s.data.toList = (0, ⟨p', room, asPut s.data.toList ⟨fe.f.b, fe.f.b.length⟩ (sec FE.f es)⟩) := by unfold DkD.sync; rw [if_neg ho]; simp only [asGet_fs hg]; rw [← hc]; rfl
    rw [e]
    have HG := Lib.hid hg
    clear h e ho ho' hg hc
    go_enter Tryz.func110, Tryz.ntmps110
    go_wp2_with fail
    refine hfind.out.mono ?_
    rintro e w' ⟨rfl, rfl⟩
    go_wp2_with fail
    refine hcut.out.mono ?_
    rintro e w1 ⟨rfl, hD, hF, hsz⟩
    have hmem := asGet_some HG.out
    have hK : Blk w1 fe.blk 83 #[fe.v, .int .i64 fe.f.safe] := hD.file _ hmem
    have hgt : Got w1 base fe.v fe.f.b := hD.got _ hmem
    obtain ⟨A, c, hv, _, _, _⟩ := hgt.shape
    have c0 : w1.cell? ⟨fe.blk, 0, none⟩ = some fe.v := hK.cell 0
    have c1 : w1.cell? ⟨fe.blk, 1, none⟩ = some (.int .i64 fe.f.safe) := hK.cell 1
    have f1 := hK.frozen 1
    rw [hv] at c0
    have hg1 := grown_setCell w1 fe.blk 1 (.int .i64 (fe.f.b.length : Int))
    have hfin : DiskTo w base g m es ⟨p', room, asPut s.data.toList ⟨fe.f.b, fe.f.b.length⟩ (sec FE.f es)⟩ (w1.setCell ⟨fe.blk, 1, none⟩ (.int .i64 (fe.f.b.length : Int))) :=
     DiskTo.file_set hD hF HG.out fe.v ⟨fe.f.b, fe.f.b.length⟩ (by simp) (Blk.set_ hK 1 _) (hgt.kept (fun q hq => Below.heap_setCell w1 _ _ q (fun e => got_blk_ne hgt hK (by decide) (by rw [hq, e]))) (by simp)) (Nat.le_refl _) (fun k hk => .inl hk) (fun k hk h1 h2 => Below.heap_setCell w1 _ _ k (fun e => h1 e)) ⟨hg1.os, hg1.tape, hg1.output⟩
    have HFIN := Lib.hid hfin
    clear hfin hD hF hK hgt hv hmem hsz hg1 hfind hcut
    go_wp2_with fail
    go_ret
    exact ⟨rfl, HFIN.out⟩
set_option maxHeartbeats 1000000 in
theorem dread_any (h : DiskAt w base g m p room es) (s : ByteArray) (hs : s.size ≤ 140737488351232) (hlen : ∀ q ∈ es, q.2.f.b.length ≤ 140737488351232) :
  Calls Tryz.prog 69 #[.pointer (some ⟨g, 0, none⟩), .string s] w fun e w' => ∃ v, e = .returned (.tuple #[v, .int .i64 ((dkOf p room es).read s.data.toList).2]) ∧ Bs w' w.heap.size v ((dkOf p room es).read s.data.toList).1 ∧ Below w.heap.size w w' := by
 by_cases ho : p.off = true
 ·have e : (dkOf p room es).read s.data.toList = ([], 50) := by unfold DkD.read; rw [if_pos ho]
  rw [e]
  have hfind := Lib.hid (find_down h s hs ho)
  clear h e
  go_enter Tryz.func69, Tryz.ntmps69
  go_wp2_with fail
  refine hfind.out.mono ?_
  rintro e w' ⟨rfl, rfl⟩
  go_wp2_with fail
  go_ret2
  exact ⟨_, rfl, Own.nil _ _ _, Below.refl _ _⟩
 ·have ho' : p.off = false := by simpa using ho
  cases hg : asGet s.data.toList es with
  | none =>
   have e : (dkOf p room es).read s.data.toList = ([], 51) := by unfold DkD.read; rw [if_neg ho]; simp only [asGet_f hg]
   rw [e]
   have hfind := Lib.hid (find_none h s hs hg ho')
   clear h e
   go_enter Tryz.func69, Tryz.ntmps69
   go_wp2_with fail
   refine hfind.out.mono ?_
   rintro e w' ⟨rfl, rfl⟩
   go_wp2_with fail
   go_ret2
   exact ⟨_, rfl, Own.nil _ _ _, Below.refl _ _⟩
  | some fe =>
   have e : (dkOf p room es).read s.data.toList = (fe.f.b, 0) := by unfold DkD.read; rw [if_neg ho]; simp only [asGet_fs hg]
   rw [e]
   have hfind := Lib.hid (find_found h s hs hg ho')
   have hmem := asGet_some hg
   have hK : Blk w fe.blk 83 #[fe.v, .int .i64 fe.f.safe] := h.file _ hmem
   obtain ⟨A, c, hv, hc1, hc2, hrd⟩ := (h.got _ hmem).shape
   have hv' : fe.v = .slice A fe.f.b.length c := hv
   have c0 : w.cell? ⟨fe.blk, 0, none⟩ = some fe.v := hK.cell 0
   rw [hv'] at c0
   have hl := hlen _ hmem
   have hcl := Lib.hid (clone_any A fe.f.b fe.f.b.length c rfl w hrd hl)
   clear h e ho ho' hg hK hv hv' hrd hlen hmem hl
   go_enter Tryz.func69, Tryz.ntmps69
   go_wp2_with fail
   refine hfind.out.mono ?_
   rintro e w' ⟨rfl, rfl⟩
   go_wp2_with fail
   refine hcl.out.mono ?_
   rintro e w1 ⟨v, rfl, hov, hb⟩
   obtain ⟨A1, c1, rfl, _, _, _⟩ := bs_shape hov
   have HV := Lib.hid (And.intro hov hb)
   clear hov hb hcl hfind
   go_wp2_with fail
   go_ret2
   exact ⟨_, rfl, HV.out.1, HV.out.2⟩
end
end Go.Proofs.YtgeofijddhflaaaGreatDoor
set_option linter.unusedVariables false
namespace Go.Proofs.YtgeofijddhflaaaGreatDoor
open Go.RowKit Go.Maps Go.Sort Oct
theorem wp_put_ptr' {P : Program} {k e : TypeId} {w : World} {m : Nat} {l : List (Nm × Nat)} {o : Oper} {a : Act} {K : Act → World → Prop} {Q : Exit → Act → World → Prop} (mo xo vo : Operand) (t : TypeId) (hop : o.op = Op.mapUpdate t mo xo vo) (hk : P.underlying k = some .string) (ht : P.underlying t = some (.map k e)) (h : MapAt P k w m l) (hn : l.length < maxLen) (s : ByteArray) (hs : s.size ≤ maxLen) (g : Nat)
  (hm : a.eval mo = .map (some m)) (hx : a.eval xo = .string s) (hv : a.eval vo = .pointer (some ⟨g, 0, none⟩)) (hK : ∀ w', MapAt P k w' m (asPut s.data.toList g l) → w.grownBy w' (some m) → K (a.put o.dst undef) w') : o.wp P a w K Q := wp_put_ptr mo xo vo t hop hk ht h hn s hs g hm hx hv hK
section
variable {w w1 w2 w' : World} {base g m : Nat} {p p' : PWD} {room : Int} {es : List (Nm × FE)}
theorem DiskAt.deleted (h : DiskAt w base g m p room es) {n : Nm} (hg : w.grownBy w' (some m)) (hm : MapAt Tryz.prog 9 w' m (asDel n (sec FE.blk es))) : DiskAt w' base g m p room (asDel n es) ∧ Fr (DFoot g m es) w w' :=
 ⟨h.file_del hg hm, Fr.of_grown hg (fun k e => by injection e with e; exact .inr (.inl e.symm))⟩
set_option maxHeartbeats 1000000 in
set_option maxRecDepth 100000 in
theorem dremove1_any (h : DiskAt w base g m p room es) (s : ByteArray) (hs : s.size ≤ 140737488351232) (b1 b2 : Nat) (h1 : Blk w b1 26 #[.pointer (some ⟨g, 0, none⟩)]) (h2 : Blk w b2 9 #[.string s]) :
  Calls Tryz.prog 142 #[.pointer (some ⟨b1, 0, none⟩), .pointer (some ⟨b2, 0, none⟩)] w fun e w' => e = .returned (.tuple #[]) ∧ DiskAt w' base g m p room (asDel s.data.toList es) ∧ Fr (DFoot g m es) w w' := by
 obtain ⟨⟨c0, c1, c2, c3, c4, c5⟩, f0, f1, f2, f3⟩ := blk6_at h.blk
 have e1 : w.cell? ⟨b1, 0, none⟩ = some (.pointer (some ⟨g, 0, none⟩)) := h1.cell 0
 have e2 : w.cell? ⟨b2, 0, none⟩ = some (.string s) := h2.cell 0
 have HM := Lib.hid h.map
 have H := Lib.hid h
 have HNE := Lib.hid (show b1 ≠ m ∧ b2 ≠ m ∧ g ≠ m from ⟨map_ne h1 h.map, map_ne h2 h.map, map_ne h.blk h.map⟩)
 clear h h1 h2
 go_enter Tryz.func142, Tryz.ntmps142
 refine wp_region_held_drew (S := fun W => W.cell? ⟨b1, 0, none⟩ = some (.pointer (some ⟨g, 0, none⟩)) ∧ W.cell? ⟨b2, 0, none⟩ = some (.string s) ∧ W.cell? ⟨g, 5, none⟩ = some (.map (some m)) ∧ True) (by kernel_rfl) ⟨e1, e2, c5, trivial⟩ (fun hHeld => ?_)
 refine held_take 0 (v := ?_) (by simp) (by kernel_rfl) (by kernel_rfl) (by kernel_rfl) (fun _ _ _ h => h) (Or.inl ⟨by rfl, ?_⟩) hHeld ?_
 case refine_2 => (intro w hSw; (try dsimp only at hSw); (try (obtain ⟨s0, s1, s2, s3⟩ := hSw)); simp only [List.getElem_cons_zero]; go_simp <;> with_reducible rfl)
 simp only [List.getElem_cons_zero, Act.put, List.setIfInBounds_toArray, List.set_cons_zero]
 refine held_take 1 (v := ?_) (by simp) (by kernel_rfl) (by kernel_rfl) (by kernel_rfl) (fun _ _ _ h => h) (Or.inl ⟨by rfl, ?_⟩) hHeld ?_
 case refine_2 => (intro w hSw; (try dsimp only at hSw); (try (obtain ⟨s0, s1, s2, s3⟩ := hSw)); simp only [List.getElem_cons_zero, List.getElem_cons_succ]; go_simp <;> with_reducible rfl)
 simp only [List.getElem_cons_zero, List.getElem_cons_succ, Act.put, List.setIfInBounds_toArray, List.set_cons_zero, List.set_cons_succ]
 refine held_take 2 (v := ?_) (by simp) (by kernel_rfl) (by kernel_rfl) (by kernel_rfl) (fun _ _ _ h => h) (Or.inl ⟨by rfl, ?_⟩) hHeld ?_
 case refine_2 => (intro w hSw; (try dsimp only at hSw); (try (obtain ⟨s0, s1, s2, s3⟩ := hSw)); simp only [List.getElem_cons_zero, List.getElem_cons_succ]; go_simp <;> with_reducible rfl)
 simp only [List.getElem_cons_zero, List.getElem_cons_succ, Act.put, List.setIfInBounds_toArray, List.set_cons_zero, List.set_cons_succ]
 refine held_take 3 (v := ?_) (by simp) (by kernel_rfl) (by kernel_rfl) (by kernel_rfl) (fun _ _ _ h => h) (Or.inl ⟨by rfl, ?_⟩) hHeld ?_
 case refine_2 => (intro w hSw; (try dsimp only at hSw); (try (obtain ⟨s0, s1, s2, s3⟩ := hSw)); simp only [List.getElem_cons_zero, List.getElem_cons_succ]; go_simp <;> with_reducible rfl)
 simp only [List.getElem_cons_zero, List.getElem_cons_succ, Act.put, List.setIfInBounds_toArray, List.set_cons_zero, List.set_cons_succ]
 refine held_take 4 (v := ?_) (by simp) (by kernel_rfl) (by kernel_rfl) (by kernel_rfl) (fun _ _ _ h => h) (Or.inl ⟨by rfl, ?_⟩) hHeld ?_
 case refine_2 => (intro w hSw; (try dsimp only at hSw); (try (obtain ⟨s0, s1, s2, s3⟩ := hSw)); simp only [List.getElem_cons_zero, List.getElem_cons_succ]; go_simp <;> with_reducible rfl)
 simp only [List.getElem_cons_zero, List.getElem_cons_succ, Act.put, List.setIfInBounds_toArray, List.set_cons_zero, List.set_cons_succ]
 refine held_sole 5 (by simp) (by kernel_rfl) (fun K hK => ?_)
 simp only [List.getElem_cons_zero, List.getElem_cons_succ]
 rw [if_pos (by rfl)]
 refine wp_del_ptr (.tmp 5) (.tmp 6) 59 rfl Tryz.underlying9 Tryz.underlying59 HM.out s (by unfold maxLen; omega) rfl rfl ?_
 intro w1 hm1 hg1
 have hg2 : w.grownBy w1 (some m) := ⟨hg1.os, hg1.tape, hg1.output, hg1.size, hg1.block⟩
 have HD := Lib.hid (H.out.deleted hg2 hm1)
 refine hK.out _ _ ⟨(World.cell?_of_block (hg2.block b1 (World.block_lt_of_cell? w ⟨b1, 0, none⟩ e1) (fun e => by injection e with e; exact HNE.out.1 e))).trans e1, (World.cell?_of_block (hg2.block b2 (World.block_lt_of_cell? w ⟨b2, 0, none⟩ e2) (fun e => by injection e with e; exact HNE.out.2.1 e))).trans e2, (World.cell?_of_block (hg2.block g (World.block_lt_of_cell? w ⟨g, 5, none⟩ c5) (fun e => by injection e with e; exact HNE.out.2.2 e))).trans c5, trivial⟩ (fun hHeld => ?_)
 clear hK K
 try simp only [Act.put, List.setIfInBounds_toArray, List.set_cons_zero, List.set_cons_succ]
 refine wpAnyH_done (by kernel_rfl) ?_ _
 clear c0 c1 c2 c3 c4 c5 e1 e2 f0 f1 f2 f3 hm1 hg1 hg2 hHeld
 go_wp2
 go_end0
 exact ⟨rfl, HD.out⟩
theorem DiskAt.renamed (h : DiskAt w base g m p room es) {a b : Nm} {fe : FE} (ha : asGet a es = some fe) (hg1 : w.grownBy w1 (some m)) (h1 : DiskAt w1 base g m p room (asDel a es)) (hg : w1.grownBy w2 (some m)) (hm : MapAt Tryz.prog 9 w2 m (asPut b fe.blk (sec FE.blk (asDel a es)))) :
  DiskAt w2 base g m p room (asPut b fe (asDel a es)) ∧ Fr (DFoot g m es) w w2 ∧ ∀ k, DFoot g m (asPut b fe (asDel a es)) k → DFoot g m es k ∨ w.heap.size ≤ k := by
 have hmem := asGet_some ha
 have hf : Blk w fe.blk 83 #[fe.v, .int .i64 fe.f.safe] := h.file _ hmem
 have hgt : Got w base fe.v fe.f.b := h.got _ hmem
 have hne := map_ne hf h.map
 have h12 : ∀ k, k < w.heap.size → k ≠ m → w2.heap[k]? = w.heap[k]? := fun k hk hn => (hg.block k (Nat.lt_of_lt_of_le hk hg1.size) (fun e => hn (by injection e))).trans (hg1.block k hk (fun e => hn (by injection e)))
 refine ⟨h1.file_new fe (fun q hq _ => h.apart q (a, fe) (asDel_mem.1 hq).1 hmem (asDel_mem.1 hq).2) hg.size ((h12 fe.blk hf.lt hne).trans hf) (hgt.kept (fun k hk => h12 k (hgt.row.lt k hk) (fun e => got_map_ne hgt h.map (by rw [hk, e]))) (Nat.le_trans hg1.size hg.size)) (h.safe _ hmem) (h.low.2.2 (a, fe) hmem) hm (fun k hk hn => hg.block k hk (fun e => hn (by injection e))), ?_, fun k hk => ?_⟩
 ·exact ⟨hg.os.trans hg1.os, hg.tape.trans hg1.tape, hg.output.trans hg1.output, Nat.le_trans hg1.size hg.size, fun k hk hn => h12 k hk (fun e => hn (.inr (.inl e)))⟩
 ·rcases hk with hk | hk | ⟨q, hq, hk⟩
  ·exact .inl (.inl hk)
  ·exact .inl (.inr (.inl hk))
  ·rcases asPut_mem' hq with rfl | ⟨hq, _⟩
   ·exact .inl (.inr (.inr ⟨(a, fe), hmem, hk⟩))
   ·exact .inl (.inr (.inr ⟨q, (asDel_mem.1 hq).1, hk⟩))
set_option maxHeartbeats 1000000 in
set_option maxRecDepth 100000 in
theorem drename1_any (h : DiskAt w base g m p room es) (s t : ByteArray) (hs : s.size ≤ 140737488351232) (ht : t.size ≤ 140737488351232) {fe : FE} (hfe : asGet s.data.toList es = some fe) (b1 b2 b3 b4 : Nat) (h1 : Blk w b1 26 #[.pointer (some ⟨g, 0, none⟩)]) (h2 : Blk w b2 9 #[.string s]) (h3 : Blk w b3 81 #[.pointer (some ⟨fe.blk, 0, none⟩)]) (h4 : Blk w b4 9 #[.string t]) (hl : es.length < 4398046511104) :
  Calls Tryz.prog 120 #[.pointer (some ⟨b1, 0, none⟩), .pointer (some ⟨b2, 0, none⟩), .pointer (some ⟨b3, 0, none⟩), .pointer (some ⟨b4, 0, none⟩)] w fun e w' => e = .returned (.tuple #[]) ∧ DiskAt w' base g m p room (asPut t.data.toList fe (asDel s.data.toList es)) ∧ Fr (DFoot g m es) w w' ∧ ∀ k, DFoot g m (asPut t.data.toList fe (asDel s.data.toList es)) k → DFoot g m es k ∨ w.heap.size ≤ k := by
 obtain ⟨⟨c0, c1, c2, c3, c4, c5⟩, f0, f1, f2, f3⟩ := blk6_at h.blk
 have e1 : w.cell? ⟨b1, 0, none⟩ = some (.pointer (some ⟨g, 0, none⟩)) := h1.cell 0
 have e2 : w.cell? ⟨b2, 0, none⟩ = some (.string s) := h2.cell 0
 have e3 : w.cell? ⟨b3, 0, none⟩ = some (.pointer (some ⟨fe.blk, 0, none⟩)) := h3.cell 0
 have e4 : w.cell? ⟨b4, 0, none⟩ = some (.string t) := h4.cell 0
 have HM := Lib.hid h.map
 have H := Lib.hid h
 have HNE := Lib.hid (show b1 ≠ m ∧ b2 ≠ m ∧ g ≠ m ∧ b3 ≠ m ∧ b4 ≠ m from ⟨map_ne h1 h.map, map_ne h2 h.map, map_ne h.blk h.map, map_ne h3 h.map, map_ne h4 h.map⟩)
 have HFE := Lib.hid hfe
 clear h h1 h2 h3 h4 hfe
 go_enter Tryz.func120, Tryz.ntmps120
 go_upto_region 0 with fail
 go_cut [] (fun wx => Hid (DiskAt wx base g m p room (asDel s.data.toList es)) ∧ Hid (w.grownBy wx (some m)))
 case first =>
  refine wp_region_held_drew (S := fun W => W.cell? ⟨b1, 0, none⟩ = some (.pointer (some ⟨g, 0, none⟩)) ∧ W.cell? ⟨b2, 0, none⟩ = some (.string s) ∧ W.cell? ⟨g, 5, none⟩ = some (.map (some m)) ∧ True) (by kernel_rfl) ⟨e1, e2, c5, trivial⟩ (fun hHeld => ?_)
  refine held_take 0 (v := ?_) (by simp) (by kernel_rfl) (by kernel_rfl) (by kernel_rfl) (fun _ _ _ h => h) (Or.inl ⟨by rfl, ?_⟩) hHeld ?_
  case refine_2 => (intro w hSw; (try dsimp only at hSw); (try (obtain ⟨s0, s1, s2, s3⟩ := hSw)); simp only [List.getElem_cons_zero]; go_simp <;> with_reducible rfl)
  simp only [List.getElem_cons_zero, Act.put, List.setIfInBounds_toArray, List.set_cons_zero]
  refine held_take 1 (v := ?_) (by simp) (by kernel_rfl) (by kernel_rfl) (by kernel_rfl) (fun _ _ _ h => h) (Or.inl ⟨by rfl, ?_⟩) hHeld ?_
  case refine_2 => (intro w hSw; (try dsimp only at hSw); (try (obtain ⟨s0, s1, s2, s3⟩ := hSw)); simp only [List.getElem_cons_zero, List.getElem_cons_succ]; go_simp <;> with_reducible rfl)
  simp only [List.getElem_cons_zero, List.getElem_cons_succ, Act.put, List.setIfInBounds_toArray, List.set_cons_zero, List.set_cons_succ]
  refine held_take 2 (v := ?_) (by simp) (by kernel_rfl) (by kernel_rfl) (by kernel_rfl) (fun _ _ _ h => h) (Or.inl ⟨by rfl, ?_⟩) hHeld ?_
  case refine_2 => (intro w hSw; (try dsimp only at hSw); (try (obtain ⟨s0, s1, s2, s3⟩ := hSw)); simp only [List.getElem_cons_zero, List.getElem_cons_succ]; go_simp <;> with_reducible rfl)
  simp only [List.getElem_cons_zero, List.getElem_cons_succ, Act.put, List.setIfInBounds_toArray, List.set_cons_zero, List.set_cons_succ]
  refine held_take 3 (v := ?_) (by simp) (by kernel_rfl) (by kernel_rfl) (by kernel_rfl) (fun _ _ _ h => h) (Or.inl ⟨by rfl, ?_⟩) hHeld ?_
  case refine_2 => (intro w hSw; (try dsimp only at hSw); (try (obtain ⟨s0, s1, s2, s3⟩ := hSw)); simp only [List.getElem_cons_zero, List.getElem_cons_succ]; go_simp <;> with_reducible rfl)
  simp only [List.getElem_cons_zero, List.getElem_cons_succ, Act.put, List.setIfInBounds_toArray, List.set_cons_zero, List.set_cons_succ]
  refine held_take 4 (v := ?_) (by simp) (by kernel_rfl) (by kernel_rfl) (by kernel_rfl) (fun _ _ _ h => h) (Or.inl ⟨by rfl, ?_⟩) hHeld ?_
  case refine_2 => (intro w hSw; (try dsimp only at hSw); (try (obtain ⟨s0, s1, s2, s3⟩ := hSw)); simp only [List.getElem_cons_zero, List.getElem_cons_succ]; go_simp <;> with_reducible rfl)
  simp only [List.getElem_cons_zero, List.getElem_cons_succ, Act.put, List.setIfInBounds_toArray, List.set_cons_zero, List.set_cons_succ]
  refine held_sole 5 (by simp) (by kernel_rfl) (fun K hK => ?_)
  simp only [List.getElem_cons_zero, List.getElem_cons_succ]
  rw [if_pos (by rfl)]
  refine wp_del_ptr (.tmp 7) (.tmp 8) 59 rfl Tryz.underlying9 Tryz.underlying59 HM.out s (by unfold maxLen; omega) rfl rfl ?_
  intro w1 hm1 hg1
  have hg2 : w.grownBy w1 (some m) := ⟨hg1.os, hg1.tape, hg1.output, hg1.size, hg1.block⟩
  have HD := Lib.hid (H.out.deleted hg2 hm1).1
  have HG2 := Lib.hid hg2
  refine hK.out _ _ ⟨(World.cell?_of_block (hg2.block b1 (World.block_lt_of_cell? w ⟨b1, 0, none⟩ e1) (fun e => by injection e with e; exact HNE.out.1 e))).trans e1, (World.cell?_of_block (hg2.block b2 (World.block_lt_of_cell? w ⟨b2, 0, none⟩ e2) (fun e => by injection e with e; exact HNE.out.2.1 e))).trans e2, (World.cell?_of_block (hg2.block g (World.block_lt_of_cell? w ⟨g, 5, none⟩ c5) (fun e => by injection e with e; exact HNE.out.2.2.1 e))).trans c5, trivial⟩ (fun hHeld => ?_)
  clear hK K
  try simp only [Act.put, List.setIfInBounds_toArray, List.set_cons_zero, List.set_cons_succ]
  refine wpAnyH_done (by kernel_rfl) ?_ _
  clear c0 c1 c2 c3 c4 c5 e1 e2 e3 e4 f0 f1 f2 f3 hm1 hg1 hg2 hHeld
  go_wp2_with fail
  go_meet
  exact ⟨HD, HG2⟩
 case rest =>
  obtain ⟨hD, hG⟩ := hcut
  have hkp : ∀ (q i : Nat) (u : Value), q ≠ m → w.cell? ⟨q, i, none⟩ = some u → wc.cell? ⟨q, i, none⟩ = some u := fun q i u hq hc => (World.cell?_of_block (w := w) (hG.out.block q (World.block_lt_of_cell? w ⟨q, i, none⟩ hc) (fun e => by injection e with e; exact hq e))).trans hc
  have d1 := hkp b1 0 _ HNE.out.1 e1
  have d3 := hkp b3 0 _ HNE.out.2.2.2.1 e3
  have d4 := hkp b4 0 _ HNE.out.2.2.2.2 e4
  have d5 := hkp g 5 _ HNE.out.2.2.1 c5
  have HM2 := Lib.hid hD.out.map
  have hl2 : (sec FE.blk (asDel s.data.toList es)).length < maxLen := by
   rw [List.length_map]
   have := List.length_filter_le (fun p : Nm × FE => !(p.1 == s.data.toList)) es
   unfold asDel maxLen
   omega
  clear c0 c1 c2 c3 c4 c5 e1 e2 e3 e4 f0 f1 f2 f3 hkp
  go_wp2_with fail
  refine wp_region_held_drew (S := fun W => W.cell? ⟨b1, 0, none⟩ = some (.pointer (some ⟨g, 0, none⟩)) ∧ W.cell? ⟨b3, 0, none⟩ = some (.pointer (some ⟨fe.blk, 0, none⟩)) ∧ W.cell? ⟨b4, 0, none⟩ = some (.string t) ∧ W.cell? ⟨g, 5, none⟩ = some (.map (some m))) (by kernel_rfl) ⟨d1, d3, d4, d5⟩ (fun hHeld => ?_)
  refine held_take 0 (v := ?_) (by simp) (by kernel_rfl) (by kernel_rfl) (by kernel_rfl) (fun _ _ _ h => h) (Or.inl ⟨by rfl, ?_⟩) hHeld ?_
  case refine_2 => (intro w hSw; (try dsimp only at hSw); (try (obtain ⟨s0, s1, s2, s3⟩ := hSw)); simp only [List.getElem_cons_zero]; go_simp <;> with_reducible rfl)
  simp only [List.getElem_cons_zero, Act.put, List.setIfInBounds_toArray, List.set_cons_zero]
  refine held_take 1 (v := ?_) (by simp) (by kernel_rfl) (by kernel_rfl) (by kernel_rfl) (fun _ _ _ h => h) (Or.inl ⟨by rfl, ?_⟩) hHeld ?_
  case refine_2 => (intro w hSw; (try dsimp only at hSw); (try (obtain ⟨s0, s1, s2, s3⟩ := hSw)); simp only [List.getElem_cons_zero, List.getElem_cons_succ]; go_simp <;> with_reducible rfl)
  simp only [List.getElem_cons_zero, List.getElem_cons_succ, Act.put, List.setIfInBounds_toArray, List.set_cons_zero, List.set_cons_succ]
  refine held_take 2 (v := ?_) (by simp) (by kernel_rfl) (by kernel_rfl) (by kernel_rfl) (fun _ _ _ h => h) (Or.inl ⟨by rfl, ?_⟩) hHeld ?_
  case refine_2 => (intro w hSw; (try dsimp only at hSw); (try (obtain ⟨s0, s1, s2, s3⟩ := hSw)); simp only [List.getElem_cons_zero, List.getElem_cons_succ]; go_simp <;> with_reducible rfl)
  simp only [List.getElem_cons_zero, List.getElem_cons_succ, Act.put, List.setIfInBounds_toArray, List.set_cons_zero, List.set_cons_succ]
  refine held_take 3 (v := ?_) (by simp) (by kernel_rfl) (by kernel_rfl) (by kernel_rfl) (fun _ _ _ h => h) (Or.inl ⟨by rfl, ?_⟩) hHeld ?_
  case refine_2 => (intro w hSw; (try dsimp only at hSw); (try (obtain ⟨s0, s1, s2, s3⟩ := hSw)); simp only [List.getElem_cons_zero, List.getElem_cons_succ]; go_simp <;> with_reducible rfl)
  simp only [List.getElem_cons_zero, List.getElem_cons_succ, Act.put, List.setIfInBounds_toArray, List.set_cons_zero, List.set_cons_succ]
  refine held_take 4 (v := ?_) (by simp) (by kernel_rfl) (by kernel_rfl) (by kernel_rfl) (fun _ _ _ h => h) (Or.inl ⟨by rfl, ?_⟩) hHeld ?_
  case refine_2 => (intro w hSw; (try dsimp only at hSw); (try (obtain ⟨s0, s1, s2, s3⟩ := hSw)); simp only [List.getElem_cons_zero, List.getElem_cons_succ]; go_simp <;> with_reducible rfl)
  simp only [List.getElem_cons_zero, List.getElem_cons_succ, Act.put, List.setIfInBounds_toArray, List.set_cons_zero, List.set_cons_succ]
  refine held_take 5 (v := ?_) (by simp) (by kernel_rfl) (by kernel_rfl) (by kernel_rfl) (fun _ _ _ h => h) (Or.inl ⟨by rfl, ?_⟩) hHeld ?_
  case refine_2 => (intro w hSw; (try dsimp only at hSw); (try (obtain ⟨s0, s1, s2, s3⟩ := hSw)); simp only [List.getElem_cons_zero, List.getElem_cons_succ]; go_simp <;> with_reducible rfl)
  simp only [List.getElem_cons_zero, List.getElem_cons_succ, Act.put, List.setIfInBounds_toArray, List.set_cons_zero, List.set_cons_succ]
  refine held_sole 6 (by simp) (by kernel_rfl) (fun K hK => ?_)
  simp only [List.getElem_cons_zero, List.getElem_cons_succ]
  rw [if_pos (by rfl)]
  refine wp_put_ptr' (.tmp 12) (.tmp 13) (.tmp 14) 59 rfl Tryz.underlying9 Tryz.underlying59 HM2.out hl2 t (by unfold maxLen; omega) fe.blk rfl rfl rfl ?_
  intro w1 hm1 hg1
  have hg2 : wc.grownBy w1 (some m) := ⟨hg1.os, hg1.tape, hg1.output, hg1.size, hg1.block⟩
  have HD := Lib.hid (H.out.renamed HFE.out hG.out hD.out hg2 hm1)
  refine hK.out _ _ ⟨(World.cell?_of_block (hg2.block b1 (World.block_lt_of_cell? wc ⟨b1, 0, none⟩ d1) (fun e => by injection e with e; exact HNE.out.1 e))).trans d1, (World.cell?_of_block (hg2.block b3 (World.block_lt_of_cell? wc ⟨b3, 0, none⟩ d3) (fun e => by injection e with e; exact HNE.out.2.2.2.1 e))).trans d3, (World.cell?_of_block (hg2.block b4 (World.block_lt_of_cell? wc ⟨b4, 0, none⟩ d4) (fun e => by injection e with e; exact HNE.out.2.2.2.2 e))).trans d4, (World.cell?_of_block (hg2.block g (World.block_lt_of_cell? wc ⟨g, 5, none⟩ d5) (fun e => by injection e with e; exact HNE.out.2.2.1 e))).trans d5⟩ (fun hHeld => ?_)
  clear hK K
  try simp only [Act.put, List.setIfInBounds_toArray, List.set_cons_zero, List.set_cons_succ]
  refine wpAnyH_done (by kernel_rfl) ?_ _
  clear d1 d3 d4 d5 hm1 hg1 hg2 hHeld hl2
  go_wp2
  go_end0
  exact ⟨rfl, HD.out⟩
end
end Go.Proofs.YtgeofijddhflaaaGreatDoor
set_option linter.unusedVariables false
namespace Go.Proofs.YtgeofijddhflaaaGreatDoor
open Go.RowKit Go.Maps Go.Sort Oct
theorem tmod2 (n : Int) : n.tmod 2 = 0 ↔ n % 2 = 0 := by
 have h1 := Int.mul_tdiv_add_tmod n 2
 have h2 : -2 < n.tmod 2 := Int.lt_tmod_of_pos n (by omega)
 have h3 : n.tmod 2 < 2 := Int.tmod_lt_of_pos n (by omega)
 omega
section
variable {w w1 w2 w' : World} {base g m : Nat} {p p' : PWD} {room : Int} {es : List (Nm × FE)}
theorem DiskAt.not_foot (h : DiskAt w base g m p room es) {b : Nat} {T : TypeId} {cs : Array Value} (hB : Blk w b T cs) (h1 : T ≠ 61) (h2 : T ≠ 83) (h3 : T ≠ 5) : ¬ DFoot g m es b := by
 rintro (e | e | ⟨q, hq, e | e⟩)
 ·exact blk_ne hB h.blk h1 e
 ·exact map_ne hB h.map e
 ·exact blk_ne hB (h.file q hq) h2 e
 ·exact got_blk_ne (h.got q hq) hB h3 e
theorem Fr.blk_ {mine : Nat → Prop} (hf : Fr mine w w') {b : Nat} {T : TypeId} {cs : Array Value} (hB : Blk w b T cs) (hn : ¬ mine b) : Blk w' b T cs := (hf.block b hB.lt hn).trans hB
theorem DiskTo.step {es' : List (Nm × FE)} {d : DkD} (hf : Fr (DFoot g m es) w w1) (hfoot : ∀ k, DFoot g m es' k → DFoot g m es k ∨ w1.heap.size ≤ k) (h : DiskTo w1 base g m es' d w2) : DiskTo w base g m es d w2 := by
 obtain ⟨es2, h1, h2, h3, h4⟩ := h
 refine ⟨es2, h1, h2, hf.trans h3 (fun j hj => by
  rcases hfoot j hj with h5 | h5
  ·exact .inl h5
  ·exact .inr (Nat.le_trans hf.size h5)), fun k hk => ?_⟩
 rcases h4 k hk with h5 | h5
 ·rcases hfoot k h5 with h6 | h6
  ·exact .inl h6
  ·exact .inr (Nat.le_trans hf.size h6)
 ·exact .inr (Nat.le_trans hf.size h5)
theorem DiskTo.at_ {es' : List (Nm × FE)} (h : DiskAt w' base g m p room es') (hf : Fr (DFoot g m es) w w') (hfoot : ∀ k, DFoot g m es' k → DFoot g m es k ∨ w.heap.size ≤ k) : DiskTo w base g m es ⟨p, room, sec FE.f es'⟩ w' := ⟨es', h, rfl, hf, hfoot⟩
set_option maxHeartbeats 2000000 in
set_option maxRecDepth 100000 in
theorem whole_rm (h : DiskAt w base g m p room es) (s : ByteArray) (hs : s.size ≤ 140737488351232) (b1 b2 : Nat) (h1 : Blk w b1 26 #[.pointer (some ⟨g, 0, none⟩)]) (h2 : Blk w b2 9 #[.string s]) :
  Calls Tryz.prog 107 #[.pointer (some ⟨g, 0, none⟩), .func (.func 142) #[] #[.pointer (some ⟨b1, 0, none⟩), .pointer (some ⟨b2, 0, none⟩)]] w fun e w' => e = .returned (.int .i64 ((dkOf p room es).whole (asDel s.data.toList (sec FE.f es))).1) ∧ DiskTo w base g m es ((dkOf p room es).whole (asDel s.data.toList (sec FE.f es))).2 w' := by
 have hcut := Lib.hid (dcut_any h)
 have HB := Lib.hid (And.intro h (And.intro h1 h2))
 obtain ⟨c, hc⟩ : ∃ c, c = p.cut := ⟨_, rfl⟩
 obtain ⟨gone, part, p'⟩ := c
 rw [← hc] at hcut
 have HDO : ∀ w1, DiskAt w1 base g m p' room es → Fr (DFoot g m es) w w1 → Hid (Calls Tryz.prog 142 #[.pointer (some ⟨b1, 0, none⟩), .pointer (some ⟨b2, 0, none⟩)] w1 fun e w' => e = .returned (.tuple #[]) ∧ DiskTo w base g m es ⟨p', room, asDel s.data.toList (sec FE.f es)⟩ w') := fun w1 hD hF => Lib.hid (by
  obtain ⟨h, k0, k1⟩ := HB.out
  refine (dremove1_any hD s hs b1 b2 (hF.blk_ k0 (h.not_foot k0 (by decide) (by decide) (by decide))) (hF.blk_ k1 (h.not_foot k1 (by decide) (by decide) (by decide)))).mono ?_
  rintro e w' ⟨rfl, h4, h5⟩
  refine ⟨rfl, ?_⟩
  rw [← asDel_sec]
  exact DiskTo.at_ h4 (hF.trans h5 (fun j hj => .inl hj)) (fun k hk => .inl (foot_del hk)))
 have hdo : (if (gone = false ∨ part % 2 ≠ 0) then True else True) := by split <;> trivial
 clear hdo
 cases gone with
 | false =>
  have e : (dkOf p room es).whole (asDel s.data.toList (sec FE.f es)) = (0, ⟨p', room, asDel s.data.toList (sec FE.f es)⟩) := by unfold DkD.whole; rw [← hc]; simp
  rw [e]
  clear h e hc HB
  go_enter Tryz.func107, Tryz.ntmps107
  go_wp2_with fail
  refine hcut.out.mono ?_
  rintro e w1 ⟨rfl, hD, hF, hsz⟩
  have hdo := HDO w1 hD hF
  clear hD hF hsz hcut HDO
  go_wp2_with fail
  refine hdo.out.mono ?_
  rintro e w2 ⟨rfl, hT⟩
  have HT := Lib.hid hT
  clear hT hdo
  go_wp2_with fail
  go_ret
  exact ⟨rfl, HT.out⟩
 | true =>
  by_cases hp : part % 2 = 0
  ·have e : (dkOf p room es).whole (asDel s.data.toList (sec FE.f es)) = (50, dkOf p' room es) := by unfold DkD.whole; rw [← hc]; simp [hp]
   rw [e]
   have hpt2 : part.tmod 2 = 0 := (tmod2 part).2 hp
   have hpt : (part.tmod 2 != 0) = false := by simp [hpt2]
   clear h e hc HB HDO hp
   go_enter Tryz.func107, Tryz.ntmps107
   go_wp2_with fail
   refine hcut.out.mono ?_
   rintro e w1 ⟨rfl, hD, hF, hsz⟩
   have HT := Lib.hid (DiskTo.mk' hD hF)
   clear hD hF hsz hcut
   go_wp2_with fail
   go_ret
   exact ⟨rfl, HT.out⟩
  ·have e : (dkOf p room es).whole (asDel s.data.toList (sec FE.f es)) = (50, ⟨p', room, asDel s.data.toList (sec FE.f es)⟩) := by unfold DkD.whole; rw [← hc]; simp [hp]
   rw [e]
   have hpt2 : ¬ part.tmod 2 = 0 := fun e => hp ((tmod2 part).1 e)
   have hpt : (part.tmod 2 != 0) = true := by simpa using hpt2
   clear h e hc HB hp
   go_enter Tryz.func107, Tryz.ntmps107
   go_wp2_with fail
   refine hcut.out.mono ?_
   rintro e w1 ⟨rfl, hD, hF, hsz⟩
   have hdo := HDO w1 hD hF
   clear hD hF hsz hcut HDO
   go_wp2_with fail
   refine hdo.out.mono ?_
   rintro e w2 ⟨rfl, hT⟩
   have HT := Lib.hid hT
   clear hT hdo
   go_wp2_with fail
   go_ret
   exact ⟨rfl, HT.out⟩
set_option maxHeartbeats 2000000 in
set_option maxRecDepth 100000 in
theorem whole_rn (h : DiskAt w base g m p room es) (s t : ByteArray) (hs : s.size ≤ 140737488351232) (ht : t.size ≤ 140737488351232) {fe : FE} (hfe : asGet s.data.toList es = some fe) (b1 b2 b3 b4 : Nat) (h1 : Blk w b1 26 #[.pointer (some ⟨g, 0, none⟩)]) (h2 : Blk w b2 9 #[.string s]) (h3 : Blk w b3 81 #[.pointer (some ⟨fe.blk, 0, none⟩)]) (h4 : Blk w b4 9 #[.string t]) (hl : es.length < 4398046511104) :
  Calls Tryz.prog 107 #[.pointer (some ⟨g, 0, none⟩), .func (.func 120) #[] #[.pointer (some ⟨b1, 0, none⟩), .pointer (some ⟨b2, 0, none⟩), .pointer (some ⟨b3, 0, none⟩), .pointer (some ⟨b4, 0, none⟩)]] w fun e w' => e = .returned (.int .i64 ((dkOf p room es).whole (asPut t.data.toList fe.f (asDel s.data.toList (sec FE.f es)))).1) ∧ DiskTo w base g m es ((dkOf p room es).whole (asPut t.data.toList fe.f (asDel s.data.toList (sec FE.f es)))).2 w' := by
 have hcut := Lib.hid (dcut_any h)
 have HB := Lib.hid (And.intro h (And.intro h1 (And.intro h2 (And.intro h3 h4))))
 obtain ⟨c, hc⟩ : ∃ c, c = p.cut := ⟨_, rfl⟩
 obtain ⟨gone, part, p'⟩ := c
 rw [← hc] at hcut
 have HDO : ∀ w1, DiskAt w1 base g m p' room es → Fr (DFoot g m es) w w1 → Hid (Calls Tryz.prog 120 #[.pointer (some ⟨b1, 0, none⟩), .pointer (some ⟨b2, 0, none⟩), .pointer (some ⟨b3, 0, none⟩), .pointer (some ⟨b4, 0, none⟩)] w1 fun e w' => e = .returned (.tuple #[]) ∧ DiskTo w base g m es ⟨p', room, asPut t.data.toList fe.f (asDel s.data.toList (sec FE.f es))⟩ w') := fun w1 hD hF => Lib.hid (by
  obtain ⟨h, k0, k1, k2, k3⟩ := HB.out
  refine (drename1_any hD s t hs ht hfe b1 b2 b3 b4 (hF.blk_ k0 (h.not_foot k0 (by decide) (by decide) (by decide))) (hF.blk_ k1 (h.not_foot k1 (by decide) (by decide) (by decide))) (hF.blk_ k2 (h.not_foot k2 (by decide) (by decide) (by decide))) (hF.blk_ k3 (h.not_foot k3 (by decide) (by decide) (by decide))) hl).mono ?_
  rintro e w' ⟨rfl, h4, h5, h6⟩
  refine ⟨rfl, ?_⟩
  rw [← asDel_sec, ← asPut_sec FE.f]
  exact DiskTo.at_ h4 (hF.trans h5 (fun j hj => .inl hj)) (fun k hk => by
   rcases h6 k hk with h7 | h7
   ·exact .inl h7
   ·exact .inr (Nat.le_trans hF.size h7)))
 have hdo : (if (gone = false ∨ part % 2 ≠ 0) then True else True) := by split <;> trivial
 clear hdo
 cases gone with
 | false =>
  have e : (dkOf p room es).whole (asPut t.data.toList fe.f (asDel s.data.toList (sec FE.f es))) = (0, ⟨p', room, asPut t.data.toList fe.f (asDel s.data.toList (sec FE.f es))⟩) := by unfold DkD.whole; rw [← hc]; simp
  rw [e]
  clear h e hc HB
  go_enter Tryz.func107, Tryz.ntmps107
  go_wp2_with fail
  refine hcut.out.mono ?_
  rintro e w1 ⟨rfl, hD, hF, hsz⟩
  have hdo := HDO w1 hD hF
  clear hD hF hsz hcut HDO
  go_wp2_with fail
  refine hdo.out.mono ?_
  rintro e w2 ⟨rfl, hT⟩
  have HT := Lib.hid hT
  clear hT hdo
  go_wp2_with fail
  go_ret
  exact ⟨rfl, HT.out⟩
 | true =>
  by_cases hp : part % 2 = 0
  ·have e : (dkOf p room es).whole (asPut t.data.toList fe.f (asDel s.data.toList (sec FE.f es))) = (50, dkOf p' room es) := by unfold DkD.whole; rw [← hc]; simp [hp]
   rw [e]
   have hpt2 : part.tmod 2 = 0 := (tmod2 part).2 hp
   have hpt : (part.tmod 2 != 0) = false := by simp [hpt2]
   clear h e hc HB HDO hp
   go_enter Tryz.func107, Tryz.ntmps107
   go_wp2_with fail
   refine hcut.out.mono ?_
   rintro e w1 ⟨rfl, hD, hF, hsz⟩
   have HT := Lib.hid (DiskTo.mk' hD hF)
   clear hD hF hsz hcut
   go_wp2_with fail
   go_ret
   exact ⟨rfl, HT.out⟩
  ·have e : (dkOf p room es).whole (asPut t.data.toList fe.f (asDel s.data.toList (sec FE.f es))) = (50, ⟨p', room, asPut t.data.toList fe.f (asDel s.data.toList (sec FE.f es))⟩) := by unfold DkD.whole; rw [← hc]; simp [hp]
   rw [e]
   have hpt2 : ¬ part.tmod 2 = 0 := fun e => hp ((tmod2 part).1 e)
   have hpt : (part.tmod 2 != 0) = true := by simpa using hpt2
   clear h e hc HB hp
   go_enter Tryz.func107, Tryz.ntmps107
   go_wp2_with fail
   refine hcut.out.mono ?_
   rintro e w1 ⟨rfl, hD, hF, hsz⟩
   have hdo := HDO w1 hD hF
   clear hD hF hsz hcut HDO
   go_wp2_with fail
   refine hdo.out.mono ?_
   rintro e w2 ⟨rfl, hT⟩
   have HT := Lib.hid hT
   clear hT hdo
   go_wp2_with fail
   go_ret
   exact ⟨rfl, HT.out⟩
end
end Go.Proofs.YtgeofijddhflaaaGreatDoor
set_option linter.unusedVariables false
namespace Go.Proofs.YtgeofijddhflaaaGreatDoor
open Go.RowKit Go.Maps Go.Sort Oct
section
variable {w w1 w2 w' : World} {base g m : Nat} {p p' : PWD} {room : Int} {es : List (Nm × FE)}
set_option maxHeartbeats 2000000 in
set_option maxRecDepth 100000 in
theorem dremove_any (h : DiskAt w base g m p room es) (s : ByteArray) (hs : s.size ≤ 140737488351232) :
  Calls Tryz.prog 97 #[.pointer (some ⟨g, 0, none⟩), .string s] w fun e w' => e = .returned (.int .i64 ((dkOf p room es).remove s.data.toList).1) ∧ DiskTo w base g m es ((dkOf p room es).remove s.data.toList).2 w' := by
 have hbA := ((Below.refl w.heap.size w).alloc (Nat.le_refl _) (.cells #[.pointer (some ⟨g, 0, none⟩)] 26)).alloc (by simp) (.cells #[.string s] 9)
 have hsz : (w.alloc (.cells #[.pointer (some ⟨g, 0, none⟩)] 26)).heap.size = w.heap.size + 1 := by simp
 have hK1 := (Blk.new w 26 #[.pointer (some ⟨g, 0, none⟩)]).alloc (.cells #[.string s] 9)
 have hK2 := Blk.new (w.alloc (.cells #[.pointer (some ⟨g, 0, none⟩)] 26)) 9 #[.string s]
 rw [hsz] at hK2
 have hA := h.below hbA
 have e1 := hK1.cell 0
 have e2 := hK2.cell 0
 simp only [List.getElem?_toArray, List.getElem?_cons_zero] at e1 e2
 have HB := Lib.hid (Fr.of_below (DFoot g m es) hbA)
 have HK := Lib.hid (And.intro hK1 hK2)
 by_cases ho : p.off = true
 ·have e : (dkOf p room es).remove s.data.toList = (50, dkOf p room es) := by unfold DkD.remove; rw [if_pos ho]
  rw [e]
  have hfind := Lib.hid (find_down hA s hs ho)
  have HA := Lib.hid hA
  clear h e hA hbA hK1 hK2 hsz
  go_enter Tryz.func97, Tryz.ntmps97
  go_wp2_with fail
  refine hfind.out.mono ?_
  rintro e w' ⟨rfl, rfl⟩
  go_wp2_with fail
  go_ret
  exact ⟨rfl, DiskTo.mk' HA.out HB.out⟩
 ·have ho' : p.off = false := by simpa using ho
  cases hg : asGet s.data.toList es with
  | none =>
   have e : (dkOf p room es).remove s.data.toList = (51, dkOf p room es) := by unfold DkD.remove; rw [if_neg ho]; simp only [asGet_f hg]
   rw [e]
   have hfind := Lib.hid (find_none hA s hs hg ho')
   have HA := Lib.hid hA
   clear h e hA hbA hK1 hK2 hsz
   go_enter Tryz.func97, Tryz.ntmps97
   go_wp2_with fail
   refine hfind.out.mono ?_
   rintro e w' ⟨rfl, rfl⟩
   go_wp2_with fail
   go_ret
   exact ⟨rfl, DiskTo.mk' HA.out HB.out⟩
  | some fe =>
   have e : (dkOf p room es).remove s.data.toList = (dkOf p room es).whole (asDel s.data.toList (sec FE.f es)) := by unfold DkD.remove; rw [if_neg ho]; simp only [asGet_fs hg]
   rw [e]
   have hfind := Lib.hid (find_found hA s hs hg ho')
   have hwh := Lib.hid (whole_rm hA s hs w.heap.size (w.heap.size + 1) hK1 hK2)
   obtain ⟨R, hR⟩ : ∃ R, R = (dkOf p room es).whole (asDel s.data.toList (sec FE.f es)) := ⟨_, rfl⟩
   rw [← hR] at hwh ⊢
   clear h e hA hbA hK1 hK2 hsz hg ho ho' hR
   go_enter Tryz.func97, Tryz.ntmps97
   go_wp2_with fail
   refine hfind.out.mono ?_
   rintro e w' ⟨rfl, rfl⟩
   go_wp2_with fail
   refine hwh.out.mono ?_
   rintro e w1 ⟨rfl, hT⟩
   have HT := Lib.hid (DiskTo.step HB.out (fun k hk => .inl hk) hT)
   clear hT hwh hfind
   go_wp2_with fail
   go_ret
   exact ⟨rfl, HT.out⟩
theorem nameB_false {t : Nm} (h : nameB t = false) : t = [] ∨ 32 < t.length := by
 by_cases h0 : t = []
 ·exact .inl h0
 ·right
  unfold nameB at h
  simp [h0] at h
  exact h
theorem nameB_true {t : Nm} (h : nameB t = true) : ¬ t = [] ∧ ¬ 32 < t.length := by
 unfold nameB at h
 simp at h
 exact ⟨h.1, by omega⟩
set_option maxHeartbeats 4000000 in
set_option maxRecDepth 100000 in
theorem drename_any (h : DiskAt w base g m p room es) (s t : ByteArray) (hs : s.size ≤ 140737488351232) (ht : t.size ≤ 140737488351232) (hl : es.length < 4398046511104) :
  Calls Tryz.prog 71 #[.pointer (some ⟨g, 0, none⟩), .string s, .string t] w fun e w' => e = .returned (.int .i64 ((dkOf p room es).rename s.data.toList t.data.toList).1) ∧ DiskTo w base g m es ((dkOf p room es).rename s.data.toList t.data.toList).2 w' := by
 have hbA := (((Below.refl w.heap.size w).alloc (Nat.le_refl _) (.cells #[.pointer (some ⟨g, 0, none⟩)] 26)).alloc (by simp) (.cells #[.string s] 9)).alloc (by simp; omega) (.cells #[.string t] 9)
 have hsz : (w.alloc (.cells #[.pointer (some ⟨g, 0, none⟩)] 26)).heap.size = w.heap.size + 1 := by simp
 have hsz2 : ((w.alloc (.cells #[.pointer (some ⟨g, 0, none⟩)] 26)).alloc (.cells #[.string s] 9)).heap.size = w.heap.size + 1 + 1 := by simp
 have hK1 := ((Blk.new w 26 #[.pointer (some ⟨g, 0, none⟩)]).alloc (.cells #[.string s] 9)).alloc (.cells #[.string t] 9)
 have hK2 := (Blk.new (w.alloc (.cells #[.pointer (some ⟨g, 0, none⟩)] 26)) 9 #[.string s]).alloc (.cells #[.string t] 9)
 have hK3 := Blk.new ((w.alloc (.cells #[.pointer (some ⟨g, 0, none⟩)] 26)).alloc (.cells #[.string s] 9)) 9 #[.string t]
 have hsz3 : (((w.alloc (.cells #[.pointer (some ⟨g, 0, none⟩)] 26)).alloc (.cells #[.string s] 9)).alloc (.cells #[.string t] 9)).heap.size = w.heap.size + 1 + 1 + 1 := by simp
 rw [hsz] at hK2
 rw [hsz2] at hK3
 have hA := h.below hbA
 have e1 := hK1.cell 0
 have e2 := hK2.cell 0
 have e3 := hK3.cell 0
 simp only [List.getElem?_toArray, List.getElem?_cons_zero] at e1 e2 e3
 have HB := Lib.hid (Fr.of_below (DFoot g m es) hbA)
 by_cases ho : p.off = true
 ·have e : (dkOf p room es).rename s.data.toList t.data.toList = (50, dkOf p room es) := by unfold DkD.rename; rw [if_pos ho]
  rw [e]
  have hfind := Lib.hid (find_down hA s hs ho)
  have HA := Lib.hid (DiskTo.step HB.out (fun k hk => .inl hk) (DiskTo.mk' (hA.below ((Below.refl _ _).alloc (Nat.le_refl _) (.cells #[.pointer none] 81))) (Fr.of_below _ ((Below.refl _ _).alloc (Nat.le_refl _) _))))
  clear h e hA hbA hK1 hK2 hK3 hsz hsz2 hsz3
  go_enter Tryz.func71, Tryz.ntmps71
  go_wp2_with fail
  refine hfind.out.mono ?_
  rintro e w' ⟨rfl, rfl⟩
  go_wp2_with fail
  go_ret
  exact ⟨rfl, HA.out⟩
 ·have ho' : p.off = false := by simpa using ho
  cases hg : asGet s.data.toList es with
  | none =>
   have e : (dkOf p room es).rename s.data.toList t.data.toList = (51, dkOf p room es) := by unfold DkD.rename; rw [if_neg ho]; simp only [asGet_f hg]
   rw [e]
   have hfind := Lib.hid (find_none hA s hs hg ho')
   have HA := Lib.hid (DiskTo.step HB.out (fun k hk => .inl hk) (DiskTo.mk' (hA.below ((Below.refl _ _).alloc (Nat.le_refl _) (.cells #[.pointer none] 81))) (Fr.of_below _ ((Below.refl _ _).alloc (Nat.le_refl _) _))))
   clear h e hA hbA hK1 hK2 hK3 hsz hsz2 hsz3
   go_enter Tryz.func71, Tryz.ntmps71
   go_wp2_with fail
   refine hfind.out.mono ?_
   rintro e w' ⟨rfl, rfl⟩
   go_wp2_with fail
   go_ret
   exact ⟨rfl, HA.out⟩
  | some fe =>
   have hfind := Lib.hid (find_found hA s hs hg ho')
   have hbF := (Below.refl _ (((w.alloc (.cells #[.pointer (some ⟨g, 0, none⟩)] 26)).alloc (.cells #[.string s] 9)).alloc (.cells #[.string t] 9))).alloc (Nat.le_refl _) (.cells #[.pointer (some ⟨fe.blk, 0, none⟩)] 81)
   have hF := hA.below hbF
   have hnm := Lib.hid (dname_any t ((((w.alloc (.cells #[.pointer (some ⟨g, 0, none⟩)] 26)).alloc (.cells #[.string s] 9)).alloc (.cells #[.string t] 9)).alloc (.cells #[.pointer (some ⟨fe.blk, 0, none⟩)] 81)) ht)
   have HF := Lib.hid (HB.out.trans (Fr.of_below (DFoot g m es) hbF) (fun j hj => .inl hj))
   have g1 := (hK1.alloc (.cells #[.pointer (some ⟨fe.blk, 0, none⟩)] 81))
   have g2 := (hK2.alloc (.cells #[.pointer (some ⟨fe.blk, 0, none⟩)] 81))
   have g3 := (hK3.alloc (.cells #[.pointer (some ⟨fe.blk, 0, none⟩)] 81))
   have g4 := Blk.new (((w.alloc (.cells #[.pointer (some ⟨g, 0, none⟩)] 26)).alloc (.cells #[.string s] 9)).alloc (.cells #[.string t] 9)) 81 #[.pointer (some ⟨fe.blk, 0, none⟩)]
   rw [hsz3] at g4
   have d1 := g1.cell 0
   have d2 := g2.cell 0
   have d3 := g3.cell 0
   have d4 := g4.cell 0
   simp only [List.getElem?_toArray, List.getElem?_cons_zero] at d1 d2 d3 d4
   cases hnb : nameB t.data.toList with
   | false =>
    have e : (dkOf p room es).rename s.data.toList t.data.toList = (1, dkOf p room es) := by
     unfold DkD.rename
     rw [if_neg ho]
     simp only [asGet_fs hg]
     rw [if_pos]
     rcases nameB_false hnb with h1 | h1
     ·exact .inl h1
     ·exact .inr (.inl h1)
    rw [e]
    rw [hnb] at hnm
    have HT := Lib.hid (DiskTo.mk' hF HF.out)
    clear h e hA hbA hK1 hK2 hK3 hsz hsz2 hsz3 hbF hF g1 g2 g3 g4 hg ho ho' hnb
    go_enter Tryz.func71, Tryz.ntmps71
    go_wp2_with fail
    refine hfind.out.mono ?_
    rintro e w' ⟨rfl, rfl⟩
    go_wp2_with fail
    refine hnm.out.mono ?_
    rintro e w' ⟨rfl, rfl⟩
    go_wp2_with fail
    go_ret
    exact ⟨rfl, HT.out⟩
   | true =>
    rw [hnb] at hnm
    obtain ⟨n1, n2⟩ := nameB_true hnb
    by_cases hst : s.data.toList = t.data.toList
    ·have hst' : s = t := WideShapes.bytes_inj hst
     have e : (dkOf p room es).rename s.data.toList t.data.toList = (1, dkOf p room es) := by
      unfold DkD.rename
      rw [if_neg ho]
      simp only [asGet_fs hg]
      rw [if_pos (.inr (.inr hst))]
     rw [e]
     have HT := Lib.hid (DiskTo.mk' hF HF.out)
     subst hst'
     clear h e hA hbA hK1 hK2 hK3 hsz hsz2 hsz3 hbF hF g1 g2 g3 g4 hg ho ho' hnb n1 n2 hst
     go_enter Tryz.func71, Tryz.ntmps71
     go_wp2_with fail
     refine hfind.out.mono ?_
     rintro e w' ⟨rfl, rfl⟩
     go_wp2_with fail
     refine hnm.out.mono ?_
     rintro e w' ⟨rfl, rfl⟩
     go_wp2_with fail
     go_ret
     exact ⟨rfl, HT.out⟩
    ·have hne : (s.toList == t.toList) = false := by
      rw [toList_eq, toList_eq]
      simpa using hst
     have e : (dkOf p room es).rename s.data.toList t.data.toList = (dkOf p room es).whole (asPut t.data.toList fe.f (asDel s.data.toList (sec FE.f es))) := by
      unfold DkD.rename
      rw [if_neg ho]
      simp only [asGet_fs hg]
      rw [if_neg]
      rintro (h1 | h1 | h1)
      ·exact n1 h1
      ·exact n2 h1
      ·exact hst h1
     rw [e]
     have hwh := Lib.hid (whole_rn hF s t hs ht hg w.heap.size (w.heap.size + 1) (w.heap.size + 1 + 1 + 1) (w.heap.size + 1 + 1) g1 g2 g4 g3 hl)
     obtain ⟨R, hR⟩ : ∃ R, R = (dkOf p room es).whole (asPut t.data.toList fe.f (asDel s.data.toList (sec FE.f es))) := ⟨_, rfl⟩
     rw [← hR] at hwh ⊢
     clear h e hA hbA hK1 hK2 hK3 hsz hsz2 hsz3 hbF hF g1 g2 g3 g4 hg ho ho' hnb n1 n2 hst hR
     go_enter Tryz.func71, Tryz.ntmps71
     go_wp2_with fail
     refine hfind.out.mono ?_
     rintro e w' ⟨rfl, rfl⟩
     go_wp2_with fail
     refine hnm.out.mono ?_
     rintro e w' ⟨rfl, rfl⟩
     go_wp2_with fail
     refine hwh.out.mono ?_
     rintro e w1 ⟨rfl, hT⟩
     have HT := Lib.hid (DiskTo.step HF.out (fun k hk => .inl hk) hT)
     clear hT hwh hfind hnm
     go_wp2_with fail
     go_ret
     exact ⟨rfl, HT.out⟩
end
end Go.Proofs.YtgeofijddhflaaaGreatDoor
