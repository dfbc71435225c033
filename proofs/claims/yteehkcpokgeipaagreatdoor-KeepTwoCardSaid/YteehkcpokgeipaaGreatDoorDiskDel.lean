/- The disk's acts that name files anew: Remove, Rename. Condition: the disk is a call's own; names at most 2^47 bytes. -/
import Derived.Test.YteehkcpokgeipaaGreatDoorDiskActs
import Derived.Deep.DeepCutAuto
set_option linter.unusedVariables false
namespace Go.Proofs.YteehkcpokgeipaaGreatDoor
open Go.RowKit Go.Maps Go.Sort Oct

theorem wp_put_ptr' {P : Program} {k e : TypeId} {w : World} {m : Nat} {l : List (Nm × Nat)} {o : Oper} {a : Act} {K : Act → World → Prop} {Q : Exit → Act → World → Prop} (mo xo vo : Operand) (t : TypeId) (hop : o.op = Op.mapUpdate t mo xo vo) (hk : P.underlying k = some .string) (ht : P.underlying t = some (.map k e)) (h : MapAt P k w m l) (hn : l.length < maxLen) (s : ByteArray) (hs : s.size ≤ maxLen) (g : Nat)
    (hm : a.eval mo = .map (some m)) (hx : a.eval xo = .string s) (hv : a.eval vo = .pointer (some ⟨g, 0, none⟩)) (hK : ∀ w', MapAt P k w' m (asPut s.data.toList g l) → w.grownBy w' (some m) → K (a.put o.dst undef) w') : o.wp P a w K Q := wp_put_ptr mo xo vo t hop hk ht h hn s hs g hm hx hv hK
section
variable {w w1 w2 w' : World} {base g m : Nat} {p p' : PWD} {room : Int} {es : List (Nm × FE)}
theorem DiskAt.deleted (h : DiskAt w base g m p room es) {n : Nm} (hg : w.grownBy w' (some m)) (hm : MapAt Tryz.prog 9 w' m (asDel n (sec FE.blk es))) : DiskAt w' base g m p room (asDel n es) ∧ Fr (DFoot g m es) w w' :=
  ⟨h.file_del hg hm, Fr.of_grown hg (fun k e => by injection e with e; exact .inr (.inl e.symm))⟩
set_option maxHeartbeats 1000000 in
set_option maxRecDepth 100000 in
theorem dremove1_any (h : DiskAt w base g m p room es) (s : ByteArray) (hs : s.size ≤ 140737488351232) (b1 b2 : Nat) (h1 : Blk w b1 24 #[.pointer (some ⟨g, 0, none⟩)]) (h2 : Blk w b2 9 #[.string s]) :
    Calls Tryz.prog 59 #[.pointer (some ⟨b1, 0, none⟩), .pointer (some ⟨b2, 0, none⟩)] w fun e w' => e = .returned (.tuple #[]) ∧ DiskAt w' base g m p room (asDel s.data.toList es) ∧ Fr (DFoot g m es) w w' := by
  obtain ⟨⟨c0, c1, c2, c3, c4, c5⟩, f0, f1, f2, f3⟩ := blk6_at h.blk
  have e1 : w.cell? ⟨b1, 0, none⟩ = some (.pointer (some ⟨g, 0, none⟩)) := h1.cell 0
  have e2 : w.cell? ⟨b2, 0, none⟩ = some (.string s) := h2.cell 0
  have HM := Lib.hid h.map
  have H := Lib.hid h
  have HNE := Lib.hid (show b1 ≠ m ∧ b2 ≠ m ∧ g ≠ m from ⟨map_ne h1 h.map, map_ne h2 h.map, map_ne h.blk h.map⟩)
  clear h h1 h2
  go_enter Tryz.func59, Tryz.ntmps59
  refine wp_region_held_drew (S := fun W => W.cell? ⟨b1, 0, none⟩ = some (.pointer (some ⟨g, 0, none⟩)) ∧ W.cell? ⟨b2, 0, none⟩ = some (.string s) ∧ W.cell? ⟨g, 5, none⟩ = some (.map (some m)) ∧ True) (by kernel_rfl) ⟨e1, e2, c5, trivial⟩ (fun hHeld => ?_)
  refine held_take 0 (v := ?_) (by simp) (by kernel_rfl) (by kernel_rfl) (by kernel_rfl) (fun _ _ _ h => h) (Or.inl ⟨by rfl, ?_⟩) hHeld ?_
  case refine_2 => (intro w hSw; (try dsimp only at hSw); (try (obtain ⟨s0, s1, s2, s3⟩ := hSw)); simp only [List.getElem_cons_zero]; go_simp <;> with_reducible rfl)
  simp only [List.getElem_cons_zero, Act.put, List.setIfInBounds_toArray, List.set_cons_zero]
  refine held_take 1 (v := ?_) (by simp) (by kernel_rfl) (by kernel_rfl) (by kernel_rfl) (fun _ _ _ h => h) (Or.inl ⟨by rfl, ?_⟩) hHeld ?_
  case refine_2 => (intro w hSw; (try dsimp only at hSw); (try (obtain ⟨s0, s1, s2, s3⟩ := hSw)); simp only [List.getElem_cons_zero, List.getElem_cons_succ]; go_simp <;> with_reducible rfl)
  simp only [List.getElem_cons_zero, List.getElem_cons_succ, Act.put, List.setIfInBounds_toArray, List.set_cons_zero, List.set_cons_succ]
  refine held_take 2 (v := ?_) (by simp) (by kernel_rfl) (by kernel_rfl) (by kernel_rfl) (fun _ _ _ h => h) (Or.inl ⟨by rfl, ?_⟩) hHeld ?_
  case refine_2 => (intro w hSw; (try dsimp only at hSw); (try (obtain ⟨s0, s1, s2, s3⟩ := hSw)); simp only [List.getElem_cons_zero, List.getElem_cons_succ]; go_simp <;> with_reducible rfl)
  simp only [List.getElem_cons_zero, List.getElem_cons_succ, Act.put, List.setIfInBounds_toArray, List.set_cons_zero, List.set_cons_succ]
  refine held_take 3 (v := ?_) (by simp) (by kernel_rfl) (by kernel_rfl) (by kernel_rfl) (fun _ _ _ h => h) (Or.inl ⟨by rfl, ?_⟩) hHeld ?_
  case refine_2 => (intro w hSw; (try dsimp only at hSw); (try (obtain ⟨s0, s1, s2, s3⟩ := hSw)); simp only [List.getElem_cons_zero, List.getElem_cons_succ]; go_simp <;> with_reducible rfl)
  simp only [List.getElem_cons_zero, List.getElem_cons_succ, Act.put, List.setIfInBounds_toArray, List.set_cons_zero, List.set_cons_succ]
  refine held_take 4 (v := ?_) (by simp) (by kernel_rfl) (by kernel_rfl) (by kernel_rfl) (fun _ _ _ h => h) (Or.inl ⟨by rfl, ?_⟩) hHeld ?_
  case refine_2 => (intro w hSw; (try dsimp only at hSw); (try (obtain ⟨s0, s1, s2, s3⟩ := hSw)); simp only [List.getElem_cons_zero, List.getElem_cons_succ]; go_simp <;> with_reducible rfl)
  simp only [List.getElem_cons_zero, List.getElem_cons_succ, Act.put, List.setIfInBounds_toArray, List.set_cons_zero, List.set_cons_succ]
  refine held_sole 5 (by simp) (by kernel_rfl) (fun K hK => ?_)
  simp only [List.getElem_cons_zero, List.getElem_cons_succ]
  rw [if_pos (by rfl)]
  refine wp_del_ptr (.tmp 5) (.tmp 6) 49 rfl Tryz.underlying9 Tryz.underlying49 HM.out s (by unfold maxLen; omega) rfl rfl ?_
  intro w1 hm1 hg1
  have hg2 : w.grownBy w1 (some m) := ⟨hg1.os, hg1.tape, hg1.output, hg1.size, hg1.block⟩
  have HD := Lib.hid (H.out.deleted hg2 hm1)
  refine hK.out _ _ ⟨(World.cell?_of_block (hg2.block b1 (World.block_lt_of_cell? w ⟨b1, 0, none⟩ e1) (fun e => by injection e with e; exact HNE.out.1 e))).trans e1, (World.cell?_of_block (hg2.block b2 (World.block_lt_of_cell? w ⟨b2, 0, none⟩ e2) (fun e => by injection e with e; exact HNE.out.2.1 e))).trans e2, (World.cell?_of_block (hg2.block g (World.block_lt_of_cell? w ⟨g, 5, none⟩ c5) (fun e => by injection e with e; exact HNE.out.2.2 e))).trans c5, trivial⟩ (fun hHeld => ?_)
  clear hK K
  try simp only [Act.put, List.setIfInBounds_toArray, List.set_cons_zero, List.set_cons_succ]
  refine wpAnyH_done (by kernel_rfl) ?_ _
  clear c0 c1 c2 c3 c4 c5 e1 e2 f0 f1 f2 f3 hm1 hg1 hg2 hHeld
  go_wp2
  go_end0
  exact ⟨rfl, HD.out⟩
theorem DiskAt.renamed (h : DiskAt w base g m p room es) {a b : Nm} {fe : FE} (ha : asGet a es = some fe) (hg1 : w.grownBy w1 (some m)) (h1 : DiskAt w1 base g m p room (asDel a es)) (hg : w1.grownBy w2 (some m)) (hm : MapAt Tryz.prog 9 w2 m (asPut b fe.blk (sec FE.blk (asDel a es)))) :
    DiskAt w2 base g m p room (asPut b fe (asDel a es)) ∧ Fr (DFoot g m es) w w2 ∧ ∀ k, DFoot g m (asPut b fe (asDel a es)) k → DFoot g m es k ∨ w.heap.size ≤ k := by
  have hmem := asGet_some ha
  have hf : Blk w fe.blk 109 #[fe.v, .int .i64 fe.f.safe] := h.file _ hmem
  have hgt : Got w base fe.v fe.f.b := h.got _ hmem
  have hne := map_ne hf h.map
  have h12 : ∀ k, k < w.heap.size → k ≠ m → w2.heap[k]? = w.heap[k]? := fun k hk hn => (hg.block k (Nat.lt_of_lt_of_le hk hg1.size) (fun e => hn (by injection e))).trans (hg1.block k hk (fun e => hn (by injection e)))
  refine ⟨h1.file_new fe (fun q hq _ => h.apart q (a, fe) (asDel_mem.1 hq).1 hmem (asDel_mem.1 hq).2) hg.size ((h12 fe.blk hf.lt hne).trans hf) (hgt.kept (fun k hk => h12 k (hgt.row.lt k hk) (fun e => got_map_ne hgt h.map (by rw [hk, e]))) (Nat.le_trans hg1.size hg.size)) (h.safe _ hmem) (h.low.2.2 (a, fe) hmem) hm (fun k hk hn => hg.block k hk (fun e => hn (by injection e))), ?_, fun k hk => ?_⟩
  · exact ⟨hg.os.trans hg1.os, hg.tape.trans hg1.tape, hg.output.trans hg1.output, Nat.le_trans hg1.size hg.size, fun k hk hn => h12 k hk (fun e => hn (.inr (.inl e)))⟩
  · rcases hk with hk | hk | ⟨q, hq, hk⟩
    · exact .inl (.inl hk)
    · exact .inl (.inr (.inl hk))
    · rcases asPut_mem' hq with rfl | ⟨hq, _⟩
      · exact .inl (.inr (.inr ⟨(a, fe), hmem, hk⟩))
      · exact .inl (.inr (.inr ⟨q, (asDel_mem.1 hq).1, hk⟩))
set_option maxHeartbeats 1000000 in
set_option maxRecDepth 100000 in
theorem drename1_any (h : DiskAt w base g m p room es) (s t : ByteArray) (hs : s.size ≤ 140737488351232) (ht : t.size ≤ 140737488351232) {fe : FE} (hfe : asGet s.data.toList es = some fe) (b1 b2 b3 b4 : Nat) (h1 : Blk w b1 24 #[.pointer (some ⟨g, 0, none⟩)]) (h2 : Blk w b2 9 #[.string s]) (h3 : Blk w b3 69 #[.pointer (some ⟨fe.blk, 0, none⟩)]) (h4 : Blk w b4 9 #[.string t]) (hl : es.length < 4398046511104) :
    Calls Tryz.prog 63 #[.pointer (some ⟨b1, 0, none⟩), .pointer (some ⟨b2, 0, none⟩), .pointer (some ⟨b3, 0, none⟩), .pointer (some ⟨b4, 0, none⟩)] w fun e w' => e = .returned (.tuple #[]) ∧ DiskAt w' base g m p room (asPut t.data.toList fe (asDel s.data.toList es)) ∧ Fr (DFoot g m es) w w' ∧ ∀ k, DFoot g m (asPut t.data.toList fe (asDel s.data.toList es)) k → DFoot g m es k ∨ w.heap.size ≤ k := by
  obtain ⟨⟨c0, c1, c2, c3, c4, c5⟩, f0, f1, f2, f3⟩ := blk6_at h.blk
  have e1 : w.cell? ⟨b1, 0, none⟩ = some (.pointer (some ⟨g, 0, none⟩)) := h1.cell 0
  have e2 : w.cell? ⟨b2, 0, none⟩ = some (.string s) := h2.cell 0
  have e3 : w.cell? ⟨b3, 0, none⟩ = some (.pointer (some ⟨fe.blk, 0, none⟩)) := h3.cell 0
  have e4 : w.cell? ⟨b4, 0, none⟩ = some (.string t) := h4.cell 0
  have HM := Lib.hid h.map
  have H := Lib.hid h
  have HNE := Lib.hid (show b1 ≠ m ∧ b2 ≠ m ∧ g ≠ m ∧ b3 ≠ m ∧ b4 ≠ m from ⟨map_ne h1 h.map, map_ne h2 h.map, map_ne h.blk h.map, map_ne h3 h.map, map_ne h4 h.map⟩)
  have HFE := Lib.hid hfe
  clear h h1 h2 h3 h4 hfe
  go_enter Tryz.func63, Tryz.ntmps63
  go_upto_region 0 with fail
  go_cut [] (fun wx => Hid (DiskAt wx base g m p room (asDel s.data.toList es)) ∧ Hid (w.grownBy wx (some m)))
  case first =>
    refine wp_region_held_drew (S := fun W => W.cell? ⟨b1, 0, none⟩ = some (.pointer (some ⟨g, 0, none⟩)) ∧ W.cell? ⟨b2, 0, none⟩ = some (.string s) ∧ W.cell? ⟨g, 5, none⟩ = some (.map (some m)) ∧ True) (by kernel_rfl) ⟨e1, e2, c5, trivial⟩ (fun hHeld => ?_)
    refine held_take 0 (v := ?_) (by simp) (by kernel_rfl) (by kernel_rfl) (by kernel_rfl) (fun _ _ _ h => h) (Or.inl ⟨by rfl, ?_⟩) hHeld ?_
    case refine_2 => (intro w hSw; (try dsimp only at hSw); (try (obtain ⟨s0, s1, s2, s3⟩ := hSw)); simp only [List.getElem_cons_zero]; go_simp <;> with_reducible rfl)
    simp only [List.getElem_cons_zero, Act.put, List.setIfInBounds_toArray, List.set_cons_zero]
    refine held_take 1 (v := ?_) (by simp) (by kernel_rfl) (by kernel_rfl) (by kernel_rfl) (fun _ _ _ h => h) (Or.inl ⟨by rfl, ?_⟩) hHeld ?_
    case refine_2 => (intro w hSw; (try dsimp only at hSw); (try (obtain ⟨s0, s1, s2, s3⟩ := hSw)); simp only [List.getElem_cons_zero, List.getElem_cons_succ]; go_simp <;> with_reducible rfl)
    simp only [List.getElem_cons_zero, List.getElem_cons_succ, Act.put, List.setIfInBounds_toArray, List.set_cons_zero, List.set_cons_succ]
    refine held_take 2 (v := ?_) (by simp) (by kernel_rfl) (by kernel_rfl) (by kernel_rfl) (fun _ _ _ h => h) (Or.inl ⟨by rfl, ?_⟩) hHeld ?_
    case refine_2 => (intro w hSw; (try dsimp only at hSw); (try (obtain ⟨s0, s1, s2, s3⟩ := hSw)); simp only [List.getElem_cons_zero, List.getElem_cons_succ]; go_simp <;> with_reducible rfl)
    simp only [List.getElem_cons_zero, List.getElem_cons_succ, Act.put, List.setIfInBounds_toArray, List.set_cons_zero, List.set_cons_succ]
    refine held_take 3 (v := ?_) (by simp) (by kernel_rfl) (by kernel_rfl) (by kernel_rfl) (fun _ _ _ h => h) (Or.inl ⟨by rfl, ?_⟩) hHeld ?_
    case refine_2 => (intro w hSw; (try dsimp only at hSw); (try (obtain ⟨s0, s1, s2, s3⟩ := hSw)); simp only [List.getElem_cons_zero, List.getElem_cons_succ]; go_simp <;> with_reducible rfl)
    simp only [List.getElem_cons_zero, List.getElem_cons_succ, Act.put, List.setIfInBounds_toArray, List.set_cons_zero, List.set_cons_succ]
    refine held_take 4 (v := ?_) (by simp) (by kernel_rfl) (by kernel_rfl) (by kernel_rfl) (fun _ _ _ h => h) (Or.inl ⟨by rfl, ?_⟩) hHeld ?_
    case refine_2 => (intro w hSw; (try dsimp only at hSw); (try (obtain ⟨s0, s1, s2, s3⟩ := hSw)); simp only [List.getElem_cons_zero, List.getElem_cons_succ]; go_simp <;> with_reducible rfl)
    simp only [List.getElem_cons_zero, List.getElem_cons_succ, Act.put, List.setIfInBounds_toArray, List.set_cons_zero, List.set_cons_succ]
    refine held_sole 5 (by simp) (by kernel_rfl) (fun K hK => ?_)
    simp only [List.getElem_cons_zero, List.getElem_cons_succ]
    rw [if_pos (by rfl)]
    refine wp_del_ptr (.tmp 7) (.tmp 8) 49 rfl Tryz.underlying9 Tryz.underlying49 HM.out s (by unfold maxLen; omega) rfl rfl ?_
    intro w1 hm1 hg1
    have hg2 : w.grownBy w1 (some m) := ⟨hg1.os, hg1.tape, hg1.output, hg1.size, hg1.block⟩
    have HD := Lib.hid (H.out.deleted hg2 hm1).1
    have HG2 := Lib.hid hg2
    refine hK.out _ _ ⟨(World.cell?_of_block (hg2.block b1 (World.block_lt_of_cell? w ⟨b1, 0, none⟩ e1) (fun e => by injection e with e; exact HNE.out.1 e))).trans e1, (World.cell?_of_block (hg2.block b2 (World.block_lt_of_cell? w ⟨b2, 0, none⟩ e2) (fun e => by injection e with e; exact HNE.out.2.1 e))).trans e2, (World.cell?_of_block (hg2.block g (World.block_lt_of_cell? w ⟨g, 5, none⟩ c5) (fun e => by injection e with e; exact HNE.out.2.2.1 e))).trans c5, trivial⟩ (fun hHeld => ?_)
    clear hK K
    try simp only [Act.put, List.setIfInBounds_toArray, List.set_cons_zero, List.set_cons_succ]
    refine wpAnyH_done (by kernel_rfl) ?_ _
    clear c0 c1 c2 c3 c4 c5 e1 e2 e3 e4 f0 f1 f2 f3 hm1 hg1 hg2 hHeld
    go_wp2_with fail
    go_meet
    exact ⟨HD, HG2⟩
  case rest =>
    obtain ⟨hD, hG⟩ := hcut
    have hkp : ∀ (q i : Nat) (u : Value), q ≠ m → w.cell? ⟨q, i, none⟩ = some u → wc.cell? ⟨q, i, none⟩ = some u := fun q i u hq hc => (World.cell?_of_block (w := w) (hG.out.block q (World.block_lt_of_cell? w ⟨q, i, none⟩ hc) (fun e => by injection e with e; exact hq e))).trans hc
    have d1 := hkp b1 0 _ HNE.out.1 e1
    have d3 := hkp b3 0 _ HNE.out.2.2.2.1 e3
    have d4 := hkp b4 0 _ HNE.out.2.2.2.2 e4
    have d5 := hkp g 5 _ HNE.out.2.2.1 c5
    have HM2 := Lib.hid hD.out.map
    have hl2 : (sec FE.blk (asDel s.data.toList es)).length < maxLen := by
      rw [List.length_map]
      have := List.length_filter_le (fun p : Nm × FE => !(p.1 == s.data.toList)) es
      unfold asDel maxLen
      omega
    clear c0 c1 c2 c3 c4 c5 e1 e2 e3 e4 f0 f1 f2 f3 hkp
    go_wp2_with fail
    refine wp_region_held_drew (S := fun W => W.cell? ⟨b1, 0, none⟩ = some (.pointer (some ⟨g, 0, none⟩)) ∧ W.cell? ⟨b3, 0, none⟩ = some (.pointer (some ⟨fe.blk, 0, none⟩)) ∧ W.cell? ⟨b4, 0, none⟩ = some (.string t) ∧ W.cell? ⟨g, 5, none⟩ = some (.map (some m))) (by kernel_rfl) ⟨d1, d3, d4, d5⟩ (fun hHeld => ?_)
    refine held_take 0 (v := ?_) (by simp) (by kernel_rfl) (by kernel_rfl) (by kernel_rfl) (fun _ _ _ h => h) (Or.inl ⟨by rfl, ?_⟩) hHeld ?_
    case refine_2 => (intro w hSw; (try dsimp only at hSw); (try (obtain ⟨s0, s1, s2, s3⟩ := hSw)); simp only [List.getElem_cons_zero]; go_simp <;> with_reducible rfl)
    simp only [List.getElem_cons_zero, Act.put, List.setIfInBounds_toArray, List.set_cons_zero]
    refine held_take 1 (v := ?_) (by simp) (by kernel_rfl) (by kernel_rfl) (by kernel_rfl) (fun _ _ _ h => h) (Or.inl ⟨by rfl, ?_⟩) hHeld ?_
    case refine_2 => (intro w hSw; (try dsimp only at hSw); (try (obtain ⟨s0, s1, s2, s3⟩ := hSw)); simp only [List.getElem_cons_zero, List.getElem_cons_succ]; go_simp <;> with_reducible rfl)
    simp only [List.getElem_cons_zero, List.getElem_cons_succ, Act.put, List.setIfInBounds_toArray, List.set_cons_zero, List.set_cons_succ]
    refine held_take 2 (v := ?_) (by simp) (by kernel_rfl) (by kernel_rfl) (by kernel_rfl) (fun _ _ _ h => h) (Or.inl ⟨by rfl, ?_⟩) hHeld ?_
    case refine_2 => (intro w hSw; (try dsimp only at hSw); (try (obtain ⟨s0, s1, s2, s3⟩ := hSw)); simp only [List.getElem_cons_zero, List.getElem_cons_succ]; go_simp <;> with_reducible rfl)
    simp only [List.getElem_cons_zero, List.getElem_cons_succ, Act.put, List.setIfInBounds_toArray, List.set_cons_zero, List.set_cons_succ]
    refine held_take 3 (v := ?_) (by simp) (by kernel_rfl) (by kernel_rfl) (by kernel_rfl) (fun _ _ _ h => h) (Or.inl ⟨by rfl, ?_⟩) hHeld ?_
    case refine_2 => (intro w hSw; (try dsimp only at hSw); (try (obtain ⟨s0, s1, s2, s3⟩ := hSw)); simp only [List.getElem_cons_zero, List.getElem_cons_succ]; go_simp <;> with_reducible rfl)
    simp only [List.getElem_cons_zero, List.getElem_cons_succ, Act.put, List.setIfInBounds_toArray, List.set_cons_zero, List.set_cons_succ]
    refine held_take 4 (v := ?_) (by simp) (by kernel_rfl) (by kernel_rfl) (by kernel_rfl) (fun _ _ _ h => h) (Or.inl ⟨by rfl, ?_⟩) hHeld ?_
    case refine_2 => (intro w hSw; (try dsimp only at hSw); (try (obtain ⟨s0, s1, s2, s3⟩ := hSw)); simp only [List.getElem_cons_zero, List.getElem_cons_succ]; go_simp <;> with_reducible rfl)
    simp only [List.getElem_cons_zero, List.getElem_cons_succ, Act.put, List.setIfInBounds_toArray, List.set_cons_zero, List.set_cons_succ]
    refine held_take 5 (v := ?_) (by simp) (by kernel_rfl) (by kernel_rfl) (by kernel_rfl) (fun _ _ _ h => h) (Or.inl ⟨by rfl, ?_⟩) hHeld ?_
    case refine_2 => (intro w hSw; (try dsimp only at hSw); (try (obtain ⟨s0, s1, s2, s3⟩ := hSw)); simp only [List.getElem_cons_zero, List.getElem_cons_succ]; go_simp <;> with_reducible rfl)
    simp only [List.getElem_cons_zero, List.getElem_cons_succ, Act.put, List.setIfInBounds_toArray, List.set_cons_zero, List.set_cons_succ]
    refine held_sole 6 (by simp) (by kernel_rfl) (fun K hK => ?_)
    simp only [List.getElem_cons_zero, List.getElem_cons_succ]
    rw [if_pos (by rfl)]
    refine wp_put_ptr' (.tmp 12) (.tmp 13) (.tmp 14) 49 rfl Tryz.underlying9 Tryz.underlying49 HM2.out hl2 t (by unfold maxLen; omega) fe.blk rfl rfl rfl ?_
    intro w1 hm1 hg1
    have hg2 : wc.grownBy w1 (some m) := ⟨hg1.os, hg1.tape, hg1.output, hg1.size, hg1.block⟩
    have HD := Lib.hid (H.out.renamed HFE.out hG.out hD.out hg2 hm1)
    refine hK.out _ _ ⟨(World.cell?_of_block (hg2.block b1 (World.block_lt_of_cell? wc ⟨b1, 0, none⟩ d1) (fun e => by injection e with e; exact HNE.out.1 e))).trans d1, (World.cell?_of_block (hg2.block b3 (World.block_lt_of_cell? wc ⟨b3, 0, none⟩ d3) (fun e => by injection e with e; exact HNE.out.2.2.2.1 e))).trans d3, (World.cell?_of_block (hg2.block b4 (World.block_lt_of_cell? wc ⟨b4, 0, none⟩ d4) (fun e => by injection e with e; exact HNE.out.2.2.2.2 e))).trans d4, (World.cell?_of_block (hg2.block g (World.block_lt_of_cell? wc ⟨g, 5, none⟩ d5) (fun e => by injection e with e; exact HNE.out.2.2.1 e))).trans d5⟩ (fun hHeld => ?_)
    clear hK K
    try simp only [Act.put, List.setIfInBounds_toArray, List.set_cons_zero, List.set_cons_succ]
    refine wpAnyH_done (by kernel_rfl) ?_ _
    clear d1 d3 d4 d5 hm1 hg1 hg2 hHeld hl2
    go_wp2
    go_end0
    exact ⟨rfl, HD.out⟩
end
end Go.Proofs.YteehkcpokgeipaaGreatDoor
