/- journal.Save in plain words: what goes, what is cut, what is written. No condition. -/
import Derived.Test.YtgeofijddhflaaaGreatDoorQJnSeg
import Derived.Test.YtgeofijddhflaaaGreatDoorQDiskApp
set_option linter.unusedVariables false
namespace Go.Proofs.YtgeofijddhflaaaGreatDoor
open Oct
section
variable {α : Type} {n m : Nm} {l : List (Nm × α)}
theorem asGet_ins_ne {x : Nm × α} (h : m ≠ x.1) : ∀ l : List (Nm × α), asGet m (asIns x l) = asGet m l
 | [] => by
  unfold asIns asGet
  rw [List.find?_cons_of_neg (by simpa using fun e : x.1 = m => h e.symm)]
 | y :: r => by
  have ih := asGet_ins_ne h r
  unfold asIns
  split
  ·unfold asGet
   rw [List.find?_cons_of_neg (p := fun p : Nm × α => p.1 == m) (by simpa using fun e : x.1 = m => h e.symm)]
  ·unfold asGet at ih ⊢
   by_cases hy : (y.1 == m) = true
   ·rw [List.find?_cons_of_pos (p := fun p : Nm × α => p.1 == m) hy, List.find?_cons_of_pos (p := fun p : Nm × α => p.1 == m) hy]
   ·rw [List.find?_cons_of_neg (p := fun p : Nm × α => p.1 == m) hy, List.find?_cons_of_neg (p := fun p : Nm × α => p.1 == m) hy]
    exact ih
theorem asGet_del_ne (h : m ≠ n) (l : List (Nm × α)) : asGet m (asDel n l) = asGet m l := by
 unfold asGet asDel
 induction l with
 | nil => rfl
 | cons y r ih =>
  by_cases hy : y.1 = n
  ·rw [List.filter_cons_of_neg (by simp [hy]), ih, List.find?_cons_of_neg (by simpa [hy] using fun e : n = m => h e.symm)]
  ·rw [List.filter_cons_of_pos (by simpa using hy)]
   by_cases hm : (y.1 == m) = true
   ·rw [List.find?_cons_of_pos (p := fun p : Nm × α => p.1 == m) hm, List.find?_cons_of_pos (p := fun p : Nm × α => p.1 == m) hm]
   ·rw [List.find?_cons_of_neg (p := fun p : Nm × α => p.1 == m) hm, List.find?_cons_of_neg (p := fun p : Nm × α => p.1 == m) hm]
    exact ih
theorem asGet_put_ne (h : m ≠ n) (a : α) (l : List (Nm × α)) : asGet m (asPut n a l) = asGet m l := by
 unfold asPut
 rw [asGet_ins_ne h, asGet_del_ne h]
end
def calmP (pw : PWD) : Prop := pw.off = false ∧ pw.armed = false
theorem calmP_cut {pw : PWD} (h : calmP pw) : pw.cut = (false, 0, pw) := by
 unfold PWD.cut
 rw [if_pos h.2]
section
variable {pw : PWD} {room : Int} {fs : List (Nm × FD)} {n : Nm} {f : FD}
theorem jrm_calm (h : calmP pw) (hf : asGet n fs = some f) : (JAct.rm n).run ⟨pw, room, fs⟩ = (0, ⟨pw, room, asDel n fs⟩) := by
 show DkD.remove _ n = _
 unfold DkD.remove
 rw [if_neg (by rw [h.1]; simp)]
 simp only [hf]
 unfold DkD.whole
 simp only [calmP_cut h]
 rfl
theorem jcut_calm (h : calmP pw) (hf : asGet n fs = some f) {k : Int} (hk : 0 ≤ k ∧ k ≤ f.b.length) : (JAct.cut n k).run ⟨pw, room, fs⟩ = (0, ⟨pw, room, asPut n ⟨f.b.take k.toNat, min f.safe k.toNat⟩ fs⟩) := by
 show DkD.cutF _ n k = _
 unfold DkD.cutF
 rw [if_neg (by rw [h.1]; simp)]
 simp only [hf]
 rw [if_neg (by omega)]
 unfold DkD.whole
 simp only [calmP_cut h]
 rfl
theorem jsync_calm (h : calmP pw) (hf : asGet n fs = some f) : (JAct.sync n).run ⟨pw, room, fs⟩ = (0, ⟨pw, room, asPut n ⟨f.b, f.b.length⟩ fs⟩) := by
 show DkD.sync _ n = _
 unfold DkD.sync
 rw [if_neg (by rw [h.1]; simp)]
 simp only [hf, calmP_cut h]
 rfl
theorem japp_calm (h : calmP pw) (hn : n ≠ [] ∧ n.length ≤ 32) (p : List UInt8) (hf : (p.length : Int) ≤ room - sizes fs) :
  (JAct.app n p).run ⟨pw, room, fs⟩ = (0, ⟨pw, room, asPut n ⟨((asGet n fs).getD ⟨[], 0⟩).b ++ p, ((asGet n fs).getD ⟨[], 0⟩).safe⟩ fs⟩) := by
 show DkD.append _ n [p] = _
 unfold DkD.append
 rw [if_neg (by rw [h.1]; simp), if_neg (by rintro (e | e); exact hn.1 e; omega), if_neg (by unfold fits fits DkD.free; simpa using hf)]
 simp only [calmP_cut h]
 simp
theorem jren_calm (h : calmP pw) (hf : asGet metaNew fs = some f) : JAct.ren.run ⟨pw, room, fs⟩ = (0, ⟨pw, room, asPut metaN f (asDel metaNew fs)⟩) := by
 show DkD.rename _ metaNew metaN = _
 unfold DkD.rename
 rw [if_neg (by rw [h.1]; simp)]
 simp only [hf]
 rw [if_neg (by decide)]
 unfold DkD.whole
 simp only [calmP_cut h]
 rfl
end
theorem runJ_cons (a : JAct) (r : List JAct) (d : DkD) : runJ (a :: r) d = if (a.run d).1 = 0 then runJ r (a.run d).2 else a.run d := rfl
theorem runJ_append (a b : List JAct) (d : DkD) (h : (runJ a d).1 = 0) : runJ (a ++ b) d = runJ b (runJ a d).2 := by
 induction a generalizing d with
 | nil => rfl
 | cons x r ih =>
  rw [List.cons_append, runJ_cons]
  rw [runJ_cons] at h ⊢
  split
  ·rename_i h0
   rw [if_pos h0] at h
   exact ih _ h
  ·rename_i h0
   rw [if_neg h0] at h
   exact absurd h h0
theorem jName_inj {a b : Int} (ha : 0 ≤ a) (hb : 0 ≤ b) (h : jName a = jName b) : a = b := by
 unfold jName at h
 injection h with _ h
 unfold Lib.itoa at h
 rw [if_neg (by omega), if_neg (by omega)] at h
 have h1 := (decDigits_val a.toNat).1
 rw [h, (decDigits_val b.toNat).1] at h1
 omega
theorem jName_len (k : Int) (h : -9223372036854775808 ≤ k ∧ k ≤ 9223372036854775807) : (jName k).length ≤ 22 := by
 have := Lib.itoa_length_le k h.1 h.2
 unfold jName
 simp
 omega
end Go.Proofs.YtgeofijddhflaaaGreatDoor
set_option linter.unusedVariables false
namespace Go.Proofs.YtgeofijddhflaaaGreatDoor
open Oct
structure SegG (s : SegP) : Prop where
 rise : s.ends.Pairwise (· ≤ ·)
 pos : ∀ n ∈ s.ends, 0 ≤ n
 len : s.ends.length = s.l.length + 1
theorem lastD_ge {l : List Int} (h : l.Pairwise (· ≤ ·)) : ∀ x ∈ l, x ≤ l.getLastD 0 := by
 rcases List.eq_nil_or_concat l with rfl | ⟨r, y, rfl⟩
 ·intro x hx; cases hx
 ·rw [List.concat_eq_append] at h ⊢
  intro x hx
  have hl : (r ++ [y]).getLastD 0 = y := by simp
  rw [hl]
  rcases List.mem_append.1 hx with hx | hx
  ·exact (List.pairwise_append.1 h).2.2 x hx y (by simp)
  ·rw [List.mem_singleton.1 hx]; exact Int.le_refl _
theorem lastD_mem {l : List Int} (h : l ≠ []) : l.getLastD 0 ∈ l := by
 rcases List.eq_nil_or_concat l with rfl | ⟨r, y, rfl⟩
 ·exact absurd rfl h
 ·simp
theorem SegG.ne {s : SegP} (h : SegG s) : s.ends ≠ [] := fun e => by have := h.len; rw [e] at this; simp at this
theorem SegG.long0 {s : SegP} (h : SegG s) : 0 ≤ s.long := h.pos _ (lastD_mem h.ne)
theorem SegG.ahead {s : SegP} (h : SegG s) (ix : Int) : SegG (s.ahead ix) ∧ (s.ahead ix).long ≤ s.long ∧ (s.ahead ix).k = s.k := by
 have h1 : s.aheadN ix ≤ s.l.length := Nat.min_le_right _ _
 have hg : SegG (s.ahead ix) := by
  refine ⟨?_, ?_, ?_⟩
  ·show (s.ends.take _).Pairwise _
   exact h.rise.sublist (List.take_sublist _ _)
  ·intro n hn
   exact h.pos n (List.mem_of_mem_take hn)
  ·show (s.ends.take _).length = (s.l.take _).length + 1
   rw [List.length_take, List.length_take, h.len]
   omega
 refine ⟨hg, ?_, rfl⟩
 exact lastD_ge h.rise _ (List.mem_of_mem_take (lastD_mem hg.ne))
theorem addEnts_k : ∀ (l : List EntP) (s : SegP), (addEnts s l).k = s.k ∧ (addEnts s l).first = s.first ∧ (addEnts s l).term = s.term
 | [], s => ⟨rfl, rfl, rfl⟩
 | e :: r, s => by unfold addEnts; exact addEnts_k r _
theorem SegG.add : ∀ (l : List EntP) {s : SegP}, SegG s → SegG (addEnts s l) ∧ (addEnts s l).long = s.long + ((l.map jPiece).flatten.length : Int)
 | [], s, h => ⟨h, by simp [addEnts]⟩
 | e :: r, s, h => by
  have h0 := h.long0
  have h1 : SegG { s with l := s.l ++ [e], ends := s.ends ++ [s.long + (jPiece e).length] } := by
   refine ⟨?_, ?_, ?_⟩
   ·refine List.pairwise_append.2 ⟨h.rise, List.pairwise_singleton _ _, fun a ha b hb => ?_⟩
    rw [List.mem_singleton.1 hb]
    have := lastD_ge h.rise a ha
    unfold SegP.long
    omega
   ·intro n hn
    rcases List.mem_append.1 hn with hn | hn
    ·exact h.pos n hn
    ·rw [List.mem_singleton.1 hn]; omega
   ·show (s.ends ++ _).length = (s.l ++ _).length + 1
    rw [List.length_append, List.length_append, h.len]
    rfl
  have h2 := SegG.add r h1
  have h3 : SegP.long { s with l := s.l ++ [e], ends := s.ends ++ [s.long + (jPiece e).length] } = s.long + (jPiece e).length := by
   unfold SegP.long
   simp
  unfold addEnts
  refine ⟨h2.1, ?_⟩
  rw [h2.2, h3]
  simp only [List.map_cons, List.flatten_cons, List.length_append]
  omega
def HasF (fs : List (Nm × FD)) (n : Nm) (k : Int) : Prop := ∃ f, asGet n fs = some f ∧ k ≤ f.b.length
theorem HasF.of_eq {fs fs' : List (Nm × FD)} {n : Nm} {k : Int} (h : HasF fs n k) (e : asGet n fs' = asGet n fs) : HasF fs' n k := by
 obtain ⟨f, h1, h2⟩ := h
 exact ⟨f, e.trans h1, h2⟩
section
variable {pw : PWD} {room : Int}
theorem rms_calm (h : calmP pw) : ∀ (ss : List SegP) (fs : List (Nm × FD)), (∀ s ∈ ss, HasF fs (jName s.k) s.long) → (∀ s ∈ ss, 0 ≤ s.k) → ss.Pairwise (fun a b => a.k ≠ b.k) →
  ∃ fs', runJ (ss.map fun s => JAct.rm (jName s.k)) ⟨pw, room, fs⟩ = (0, ⟨pw, room, fs'⟩) ∧ sizes fs' + (ss.map SegP.long).sum ≤ sizes fs ∧ ∀ n, (∀ s ∈ ss, n ≠ jName s.k) → asGet n fs' = asGet n fs
 | [], fs, _, _, _ => ⟨fs, rfl, by simp, fun n _ => rfl⟩
 | s :: r, fs, hf, hk, hd => by
  obtain ⟨f, hf1, hf2⟩ := hf s (List.mem_cons_self ..)
  have hd1 := List.pairwise_cons.1 hd
  have hne : ∀ t ∈ r, jName t.k ≠ jName s.k := fun t ht e => hd1.1 t ht (jName_inj (hk s (List.mem_cons_self ..)) (hk t (List.mem_cons_of_mem _ ht)) e.symm)
  obtain ⟨fs', h1, h2, h3⟩ := rms_calm h r (asDel (jName s.k) fs) (fun t ht => (hf t (List.mem_cons_of_mem _ ht)).of_eq (asGet_del_ne (hne t ht) fs)) (fun t ht => hk t (List.mem_cons_of_mem _ ht)) hd1.2
  refine ⟨fs', ?_, ?_, fun n hn => ?_⟩
  ·rw [List.map_cons, runJ_cons, jrm_calm h hf1, if_pos rfl]
   exact h1
  ·have h4 := jsizes_get hf1
   rw [List.map_cons, List.sum_cons]
   omega
  ·rw [h3 n (fun t ht => hn t (List.mem_cons_of_mem _ ht)), asGet_del_ne (hn s (List.mem_cons_self ..))]
theorem appsync_calm (h : calmP pw) {n : Nm} (hn : n ≠ [] ∧ n.length ≤ 32) (p : List UInt8) {fs : List (Nm × FD)} (hf : (p.length : Int) ≤ room - sizes fs) :
  ∃ fs', runJ [.app n p, .sync n] ⟨pw, room, fs⟩ = (0, ⟨pw, room, fs'⟩) ∧ (∃ f, asGet n fs' = some f ∧ f.b.length = ((asGet n fs).getD ⟨[], 0⟩).b.length + p.length) ∧ ∀ m, m ≠ n → asGet m fs' = asGet m fs := by
 have h1 := japp_calm h hn p hf
 have h2 := jsync_calm (room := room) h (asGet_put n ⟨((asGet n fs).getD ⟨[], 0⟩).b ++ p, ((asGet n fs).getD ⟨[], 0⟩).safe⟩ fs)
 obtain ⟨f1, hf1⟩ : ∃ f : FD, f = ⟨((asGet n fs).getD ⟨[], 0⟩).b ++ p, ((asGet n fs).getD ⟨[], 0⟩).safe⟩ := ⟨_, rfl⟩
 rw [← hf1] at h1 h2
 refine ⟨asPut n ⟨f1.b, f1.b.length⟩ (asPut n f1 fs), ?_, ⟨⟨f1.b, f1.b.length⟩, asGet_put _ _ _, ?_⟩, fun m hm => ?_⟩
 ·rw [runJ_cons, h1, if_pos rfl, runJ_cons, h2, if_pos rfl]
  rfl
 ·rw [hf1, ← List.length_append]
 ·rw [asGet_put_ne hm, asGet_put_ne hm]
end
theorem foldl_add (l : List Int) : ∀ a : Int, l.foldl (· + ·) a = a + l.sum := by
 induction l with
 | nil => intro a; simp
 | cons x r ih =>
  intro a
  rw [List.foldl_cons, ih, List.sum_cons]
  omega
theorem jName_ok (k : Int) (h : 1 ≤ k ∧ k ≤ 999999999) : jName k ≠ [] ∧ (jName k).length ≤ 32 := by
 have := jName_len k (by omega)
 exact ⟨by unfold jName; simp, by omega⟩
structure SegsF (ss : List SegP) (fs : List (Nm × FD)) : Prop where
 seg : ∀ s ∈ ss, SegG s ∧ (1 ≤ s.k ∧ s.k ≤ 999999999) ∧ HasF fs (jName s.k) s.long
 ks : ss.Pairwise fun a b => a.k < b.k
structure RI (j : JnP) (d : DkD) : Prop where
 bad : j.bad = 0
 calm : calmP d.pw
 segs : SegsF j.segs d.fs
def Fine (r : Int × JnP × DkD) (j : JnP) (d : DkD) : Prop := RI r.2.1 r.2.2 ∧ (r.1 = 0 ∨ r.1 ≠ 50 ∧ r.2 = (j, d))
theorem Fine.same {j : JnP} {d : DkD} (h : RI j d) {c : Int} (hc : c ≠ 50) : Fine (c, j, d) j d := ⟨h, .inr ⟨hc, rfl⟩⟩
theorem SegsF.keep {ss : List SegP} {fs fs' : List (Nm × FD)} (h : SegsF ss fs) (he : ∀ s ∈ ss, asGet (jName s.k) fs' = asGet (jName s.k) fs) : SegsF ss fs' :=
 ⟨fun s hs => ⟨(h.seg s hs).1, (h.seg s hs).2.1, (h.seg s hs).2.2.of_eq (he s hs)⟩, h.ks⟩
theorem jName_new (k : Int) : jName k ≠ metaNew := by
 intro e
 unfold jName metaNew at e
 injection e with e _
 exact absurd e (by decide)
theorem jName_meta (k : Int) : jName k ≠ metaN := by
 intro e
 unfold jName metaN at e
 injection e with e _
 exact absurd e (by decide)
theorem setMeta_calm {j : JnP} {d : DkD} (h : RI j d) (t v : Int) : Fine (setMetaJ j d t v) j d := by
 obtain ⟨pw, room, fs⟩ := d
 have hc : calmP pw := h.calm
 unfold setMetaJ
 rw [if_neg (by rw [h.bad]; simp)]
 split
 ·exact Fine.same h (by decide)
 ·simp only
  split
  ·exact Fine.same h (by decide)
  ·rename_i hroom
   have hrun : ∃ fs', runJ ((if (DkD.read ⟨pw, room, fs⟩ metaNew).2 = 0 then [.rm metaNew] else []) ++ [.app metaNew (jMeta t v), .sync metaNew, .ren]) ⟨pw, room, fs⟩ = (0, ⟨pw, room, fs'⟩) ∧ ∀ k, asGet (jName k) fs' = asGet (jName k) fs := by
    have hrd : DkD.read ⟨pw, room, fs⟩ metaNew = match asGet metaNew fs with | none => ([], 51) | some f => (f.b, 0) := by
     unfold DkD.read
     rw [if_neg (by rw [hc.1]; simp)]
     rfl
    have hgo : ∀ fs1 : List (Nm × FD), ((jMeta t v).length : Int) ≤ room - sizes fs1 → ∃ fs', runJ [.app metaNew (jMeta t v), .sync metaNew, .ren] ⟨pw, room, fs1⟩ = (0, ⟨pw, room, fs'⟩) ∧ ∀ k, asGet (jName k) fs' = asGet (jName k) fs1 := fun fs1 hr => by
     obtain ⟨fs2, h1, ⟨f, h2, _⟩, h3⟩ := appsync_calm (room := room) hc (n := metaNew) ⟨by decide, by decide⟩ (jMeta t v) hr
     have h4 := jren_calm (room := room) hc h2
     refine ⟨asPut metaN f (asDel metaNew fs2), ?_, fun k => ?_⟩
     ·have e : ([JAct.app metaNew (jMeta t v), .sync metaNew, .ren] : List JAct) = [.app metaNew (jMeta t v), .sync metaNew] ++ [.ren] := rfl
      rw [e, runJ_append _ _ _ (by rw [h1]), h1]
      show runJ [.ren] ⟨pw, room, fs2⟩ = _
      rw [runJ_cons, h4, if_pos rfl]
      rfl
     ·rw [asGet_put_ne (jName_meta k), asGet_del_ne (jName_new k), h3 _ (jName_new k)]
    rw [hrd] at hroom ⊢
    have hfree : DkD.free ⟨pw, room, fs⟩ = room - sizes fs := rfl
    rw [hfree] at hroom
    cases hg : asGet metaNew fs with
    | none =>
     rw [hg] at hroom
     simp only [hg]
     rw [if_neg (by decide), List.nil_append]
     exact hgo fs (by simp only [List.length_nil] at hroom; omega)
    | some f =>
     rw [hg] at hroom
     simp only [hg]
     rw [if_pos trivial, List.singleton_append, runJ_cons, jrm_calm hc hg, if_pos rfl]
     have h5 := jsizes_get hg
     obtain ⟨fs', h6, h7⟩ := hgo (asDel metaNew fs) (by simp only at hroom; omega)
     exact ⟨fs', h6, fun k => by rw [h7, asGet_del_ne (jName_new k)]⟩
   obtain ⟨fs', h1, h2⟩ := hrun
   rw [h1]
   refine ⟨⟨?_, hc, ?_⟩, .inl rfl⟩
   ·rw [if_pos rfl]
   ·rw [if_pos rfl]
    exact h.segs.keep (fun s _ => h2 s.k)
theorem ks_ne {ss : List SegP} (h : ss.Pairwise fun a b => a.k < b.k) : ss.Pairwise fun a b => a.k ≠ b.k := h.imp fun h => by omega
theorem SegsF.drop {pw : PWD} {room : Int} (hc : calmP pw) {ss : List SegP} {fs : List (Nm × FD)} (h : SegsF ss fs) (n : Nat) : ∃ fs', runJ ((ss.take n).map fun s => JAct.rm (jName s.k)) ⟨pw, room, fs⟩ = (0, ⟨pw, room, fs'⟩) ∧ SegsF (ss.drop n) fs' := by
 have hsp : (ss.take n ++ ss.drop n).Pairwise fun a b => a.k < b.k := by rw [List.take_append_drop]; exact h.ks
 have hp := List.pairwise_append.1 hsp
 obtain ⟨fs', h1, _, h3⟩ := rms_calm (room := room) hc (ss.take n) fs (fun s hs => (h.seg s (List.mem_of_mem_take hs)).2.2) (fun s hs => by have := (h.seg s (List.mem_of_mem_take hs)).2.1; omega) (ks_ne hp.1)
 refine ⟨fs', h1, ⟨fun s hs => ?_, hp.2.1⟩⟩
 have hm := h.seg s (List.mem_of_mem_drop hs)
 refine ⟨hm.1, hm.2.1, hm.2.2.of_eq (h3 _ fun t ht e => ?_)⟩
 have h4 := hp.2.2 t ht s hs
 have h5 := (h.seg t (List.mem_of_mem_take ht)).2.1
 have := jName_inj (by omega) (by omega) e
 omega
theorem SegsF.cutBack {pw : PWD} {room : Int} (hc : calmP pw) {ss : List SegP} {fs : List (Nm × FD)} (h : SegsF ss fs) (n : Nat) : ∃ fs', runJ ((ss.drop n).reverse.map fun s => JAct.rm (jName s.k)) ⟨pw, room, fs⟩ = (0, ⟨pw, room, fs'⟩) ∧ SegsF (ss.take n) fs' ∧ sizes fs' + ((ss.drop n).reverse.map SegP.long).foldl (· + ·) 0 ≤ sizes fs := by
 have hsp : (ss.take n ++ ss.drop n).Pairwise fun a b => a.k < b.k := by rw [List.take_append_drop]; exact h.ks
 have hp := List.pairwise_append.1 hsp
 have hmem : ∀ s ∈ (ss.drop n).reverse, s ∈ ss := fun s hs => List.mem_of_mem_drop (List.mem_reverse.1 hs)
 obtain ⟨fs', h1, h2, h3⟩ := rms_calm (room := room) hc (ss.drop n).reverse fs (fun s hs => (h.seg s (hmem s hs)).2.2) (fun s hs => by have := (h.seg s (hmem s hs)).2.1; omega) (List.pairwise_reverse.2 (hp.2.1.imp fun h => by omega))
 refine ⟨fs', h1, ⟨fun s hs => ?_, hp.1⟩, by rw [foldl_add]; omega⟩
 have hm := h.seg s (List.mem_of_mem_take hs)
 refine ⟨hm.1, hm.2.1, hm.2.2.of_eq (h3 _ fun t ht e => ?_)⟩
 have h4 := hp.2.2 s hs t (List.mem_reverse.1 ht)
 have h5 := (h.seg t (hmem t ht)).2.1
 have := jName_inj (by omega) (by omega) e
 omega
theorem SegsF.snoc {ss : List SegP} {fs : List (Nm × FD)} (h : SegsF ss fs) {s : SegP} (h1 : SegG s) (h2 : 1 ≤ s.k ∧ s.k ≤ 999999999) (h3 : HasF fs (jName s.k) s.long) (h4 : ∀ t ∈ ss, t.k < s.k) : SegsF (ss ++ [s]) fs :=
 ⟨fun t ht => by
  rcases List.mem_append.1 ht with ht | ht
  ·exact h.seg t ht
  ·rw [List.mem_singleton.1 ht]; exact ⟨h1, h2, h3⟩, List.pairwise_append.2 ⟨h.ks, List.pairwise_singleton _ _, fun a ha b hb => by rw [List.mem_singleton.1 hb]; exact h4 a ha⟩⟩
def newC (j : JnP) (ix t : Int) : Bool := decide (j.last.1 < ix) || (match termAt j ix with | some x => decide (x ≠ t) | none => false)
def newS (j : JnP) (ix t : Int) : SegP := ⟨match j.segs.getLast? with | some x => x.k + 1 | none => 1, ix + 1, t, [], [((jHead (ix + 1) t).length : Int)]⟩
def badC (j : JnP) (ix t : Int) : Prop := ix < j.base.1 ∨ maxInt - 2 < ix ∨ t < 0 ∨ (ix = j.base.1 ∧ (termAt j ix).getD 0 ≠ t)
instance (j : JnP) (ix t : Int) : Decidable (badC j ix t) := by unfold badC; infer_instance
def compactR (j : JnP) (d : DkD) (ix t : Int) (new : Bool) (s : SegP) : Int × JnP × DkD :=
 if new = true ∧ 999999999 < s.k then (1, j, d) else if new = true ∧ d.free < ((jHead (ix + 1) t).length : Int) then (52, j, d) else
 let segs := if new = true then j.segs ++ [s] else j.segs
 let from_ := fromN segs ix segs.length (if new = true then j.segs.length else 0)
 let r := runJ ((if new = true then [.app (jName s.k) (jHead (ix + 1) t), .sync (jName s.k)] else []) ++ (segs.take from_).map fun x => JAct.rm (jName x.k)) d
 (r.1, if r.1 = 0 then { j with segs := segs.drop from_ } else { j with bad := r.1 }, r.2)
theorem compactJ_eq (j : JnP) (d : DkD) (ix t : Int) : compactJ j d ix t = if j.bad ≠ 0 then (j.bad, j, d) else if badC j ix t then (1, j, d) else compactR j d ix t (newC j ix t) (newS j ix t) := rfl
theorem compact_calm {j : JnP} {d : DkD} (h : RI j d) (ix t : Int) : Fine (compactJ j d ix t) j d := by
 obtain ⟨pw, room, fs⟩ := d
 have hc : calmP pw := h.calm
 rw [compactJ_eq, if_neg (by rw [h.bad]; simp)]
 split
 ·exact Fine.same h (by decide)
 ·obtain ⟨new, hnew⟩ : ∃ b, b = newC j ix t := ⟨_, rfl⟩
  rw [← hnew]
  clear hnew
  obtain ⟨s, hs⟩ : ∃ s, s = newS j ix t := ⟨_, rfl⟩
  rw [← hs]
  unfold newS at hs
  unfold compactR
  have hsg : SegG s := by rw [hs]; exact ⟨List.pairwise_singleton _ _, fun n hn => by rw [List.mem_singleton.1 hn]; omega, rfl⟩
  have hsl : s.long = (jHead (ix + 1) t).length := by rw [hs]; rfl
  have hk1 : 1 ≤ s.k ∧ ∀ q ∈ j.segs, q.k < s.k := by
   rw [hs]
   rcases List.eq_nil_or_concat j.segs with h0 | ⟨r, x, h0⟩
   ·rw [h0]
    exact ⟨by simp, fun q hq => by cases hq⟩
   ·rw [List.concat_eq_append] at h0
    have hx := h.segs.seg x (by rw [h0]; simp)
    have hks := h.segs.ks
    rw [h0] at hks ⊢
    simp only [List.getLast?_append, List.getLast?_singleton, Option.some_or]
    refine ⟨by omega, fun q hq => ?_⟩
    rcases List.mem_append.1 hq with hq | hq
    ·have := (List.pairwise_append.1 hks).2.2 q hq x (by simp)
     omega
    ·rw [List.mem_singleton.1 hq]
     omega
  clear hs
  split
  ·exact Fine.same h (by decide)
  ·rename_i hmax
   split
   ·exact Fine.same h (by decide)
   ·rename_i hroom
    have hfree : DkD.free ⟨pw, room, fs⟩ = room - sizes fs := rfl
    rw [hfree] at hroom
    dsimp only
    obtain ⟨n, hn⟩ : ∃ n, n = fromN (if new = true then j.segs ++ [s] else j.segs) ix (if new = true then j.segs ++ [s] else j.segs).length (if new = true then j.segs.length else 0) := ⟨_, rfl⟩
    rw [← hn]
    clear hn
    have hfst : ∃ fs1, runJ (if new = true then [.app (jName s.k) (jHead (ix + 1) t), .sync (jName s.k)] else []) ⟨pw, room, fs⟩ = (0, ⟨pw, room, fs1⟩) ∧ SegsF (if new = true then j.segs ++ [s] else j.segs) fs1 := by
     cases new with
     | false => exact ⟨fs, rfl, h.segs⟩
     | true =>
      have hk2 : s.k ≤ 999999999 := by
       have := hmax
       simp at this
       omega
      have hr2 : ((jHead (ix + 1) t).length : Int) ≤ room - sizes fs := by
       have := hroom
       simp at this
       omega
      obtain ⟨fs1, h1, ⟨f, h2, h3⟩, h4⟩ := appsync_calm hc (jName_ok s.k ⟨hk1.1, hk2⟩) (jHead (ix + 1) t) hr2
      refine ⟨fs1, h1, ?_⟩
      rw [if_pos rfl]
      refine (h.segs.keep fun q hq => h4 _ fun e => ?_).snoc hsg ⟨hk1.1, hk2⟩ ⟨f, h2, by rw [hsl, h3]; omega⟩ hk1.2
      have h5 := (h.segs.seg q hq).2.1
      have h6 := hk1.2 q hq
      have := jName_inj (by omega) (by omega) e
      omega
    obtain ⟨fs1, h1, h2⟩ := hfst
    obtain ⟨fs2, h3, h4⟩ := h2.drop (room := room) hc n
    rw [runJ_append _ _ _ (by rw [h1]), h1]
    simp only
    rw [h3]
    refine ⟨⟨?_, hc, ?_⟩, .inl rfl⟩
    ·rw [if_pos rfl]; exact h.bad
    ·rw [if_pos rfl]; exact h4
end Go.Proofs.YtgeofijddhflaaaGreatDoor
set_option linter.unusedVariables false
set_option linter.unusedSimpArgs false
namespace Go.Proofs.YtgeofijddhflaaaGreatDoor
open Oct
theorem mayJ_ne (j : JnP) (l : List EntP) : mayJ j l ≠ 50 := by
 unfold mayJ
 split
 ·decide
 ·split <;> decide
section
variable {j : JnP} {pw : PWD} {room : Int} {fs : List (Nm × FD)}
theorem save_fin (h : RI j ⟨pw, room, fs⟩) {do12 : List JAct} {fs2 : List (Nm × FD)} (hrun : runJ do12 ⟨pw, room, fs⟩ = (0, ⟨pw, room, fs2⟩)) {K : List SegP} (hK : SegsF K fs2) {s0 : SegP} (hs : SegG s0) (hk : 1 ≤ s0.k) (hlt : ∀ t ∈ K, t.k < s0.k) (bh : List UInt8) (hold : s0.long ≤ (((asGet (jName s0.k) fs2).getD ⟨[], 0⟩).b.length : Int) + bh.length) (freed : Int) (hfr : sizes fs2 + freed ≤ sizes fs) (l : List EntP) :
  Fine (if 999999999 < (addEnts s0 l).k then (1, j, ⟨pw, room, fs⟩) else if DkD.free ⟨pw, room, fs⟩ + freed < ((bh ++ (l.map jPiece).flatten).length : Int) then (52, j, ⟨pw, room, fs⟩) else
   ((runJ (do12 ++ [.app (jName (addEnts s0 l).k) (bh ++ (l.map jPiece).flatten), .sync (jName (addEnts s0 l).k)]) ⟨pw, room, fs⟩).1, if (runJ (do12 ++ [.app (jName (addEnts s0 l).k) (bh ++ (l.map jPiece).flatten), .sync (jName (addEnts s0 l).k)]) ⟨pw, room, fs⟩).1 = 0 then { j with segs := K ++ [addEnts s0 l] } else { j with bad := (runJ (do12 ++ [.app (jName (addEnts s0 l).k) (bh ++ (l.map jPiece).flatten), .sync (jName (addEnts s0 l).k)]) ⟨pw, room, fs⟩).1 }, (runJ (do12 ++ [.app (jName (addEnts s0 l).k) (bh ++ (l.map jPiece).flatten), .sync (jName (addEnts s0 l).k)]) ⟨pw, room, fs⟩).2)) j ⟨pw, room, fs⟩ := by
 have hc : calmP pw := h.calm
 obtain ⟨hg, hl⟩ := SegG.add l hs
 rw [(addEnts_k l s0).1]
 split
 ·exact Fine.same h (by decide)
 ·rename_i hm
  split
  ·exact Fine.same h (by decide)
  ·rename_i hr
   have hfree : DkD.free ⟨pw, room, fs⟩ = room - sizes fs := rfl
   rw [hfree] at hr
   obtain ⟨fs3, h1, ⟨f, h2, h3⟩, h4⟩ := appsync_calm (room := room) hc (jName_ok s0.k ⟨hk, by omega⟩) (bh ++ (l.map jPiece).flatten) (fs := fs2) (by omega)
   rw [runJ_append _ _ _ (by rw [hrun]), hrun, h1]
   refine ⟨⟨?_, hc, ?_⟩, .inl rfl⟩
   ·rw [if_pos rfl]; exact h.bad
   ·rw [if_pos rfl]
    have hkk := (addEnts_k l s0).1
    refine (hK.keep fun q hq => h4 _ fun e => ?_).snoc hg (by rw [hkk]; omega) ⟨f, by rw [hkk]; exact h2, ?_⟩ (fun t ht => by rw [hkk]; exact hlt t ht)
    ·have h5 := (hK.seg q hq).2.1
     have h6 := hlt q hq
     have := jName_inj (by omega) (by omega) e
     omega
    ·rw [hl, h3]
     rw [List.length_append]
     omega
theorem save_calm (h : RI j ⟨pw, room, fs⟩) (l : List EntP) : Fine (saveJ j ⟨pw, room, fs⟩ l) j ⟨pw, room, fs⟩ := by
 have hc : calmP pw := h.calm
 unfold saveJ
 rw [if_neg (by rw [h.bad]; simp)]
 split
 ·exact Fine.same h (mayJ_ne j l)
 ·cases l with
  | nil => exact Fine.same h (by decide)
  | cons e0 r =>
   simp only
   obtain ⟨L, hL⟩ : ∃ L, L = e0 :: r := ⟨_, rfl⟩
   rw [← hL]
   clear hL
   obtain ⟨n, hn⟩ : ∃ n, n = keepN j.segs e0.ix j.segs.length := ⟨_, rfl⟩
   rw [← hn]
   clear hn
   have hsf : SegsF j.segs fs := h.segs
   obtain ⟨fs1, h1, h2, h3⟩ := hsf.cutBack (room := room) hc n
   obtain ⟨fr1, hfr⟩ : ∃ x, x = ((j.segs.drop n).reverse.map SegP.long).foldl (· + ·) 0 := ⟨_, rfl⟩
   rw [← hfr] at h3 ⊢
   obtain ⟨do1, hdo⟩ : ∃ x, x = (j.segs.drop n).reverse.map fun s => JAct.rm (jName s.k) := ⟨_, rfl⟩
   rw [← hdo] at h1 ⊢
   clear hfr hdo
   rcases List.eq_nil_or_concat (j.segs.take n) with h0 | ⟨kr, s, h0⟩
   ·rw [h0] at h2 ⊢
    simp only [List.getLast?_nil, Option.map_none, if_true, List.append_nil]
    exact save_fin h (do12 := do1) h1 (K := []) h2 (s0 := ⟨1, e0.ix, 0, [], [((jHead e0.ix 0).length : Int)]⟩) ⟨List.pairwise_singleton _ _, fun n hn => by rw [List.mem_singleton.1 hn]; omega, rfl⟩ (by show (1 : Int) ≤ 1; omega) (fun t ht => by cases ht) (jHead e0.ix 0) (by show ((jHead e0.ix 0).length : Int) ≤ _; omega) (fr1 + 0) (by omega) L
   ·rw [List.concat_eq_append] at h0
    rw [h0] at h2 ⊢
    simp only [List.getLast?_append, List.getLast?_singleton, Option.some_or, Option.map_some, List.dropLast_concat]
    have hsm := h2.seg s (by simp)
    have hks := List.pairwise_append.1 h2.ks
    obtain ⟨hcg, hcl, hck⟩ := hsm.1.ahead e0.ix
    obtain ⟨c, hcc⟩ : ∃ c, c = s.ahead e0.ix := ⟨_, rfl⟩
    rw [← hcc] at hcg hcl hck ⊢
    clear hcc
    have hc0 := hcg.long0
    have hkr : SegsF kr fs1 := ⟨fun q hq => h2.seg q (by simp [hq]), hks.1⟩
    have hkne : ∀ q ∈ kr, q.k < s.k := fun q hq => hks.2.2 q hq s (by simp)
    have hmid : ∃ fs2, runJ (do1 ++ (if c.long < s.long then [JAct.cut (jName s.k) c.long] else [])) ⟨pw, room, fs⟩ = (0, ⟨pw, room, fs2⟩) ∧ SegsF kr fs2 ∧ HasF fs2 (jName s.k) c.long ∧ sizes fs2 + (fr1 + (if c.long < s.long then s.long - c.long else 0)) ≤ sizes fs := by
     obtain ⟨f, hf1, hf2⟩ := hsm.2.2
     by_cases hlt : c.long < s.long
     ·rw [if_pos hlt, if_pos hlt]
      have h5 := jcut_calm (room := room) hc hf1 (k := c.long) ⟨hc0, by omega⟩
      obtain ⟨f2, hf3⟩ : ∃ f2 : FD, f2 = ⟨f.b.take c.long.toNat, min f.safe c.long.toNat⟩ := ⟨_, rfl⟩
      rw [← hf3] at h5
      refine ⟨asPut (jName s.k) f2 fs1, ?_, ?_, ⟨f2, asGet_put _ _ _, ?_⟩, ?_⟩
      ·rw [runJ_append _ _ _ (by rw [h1]), h1, runJ_cons]
       dsimp only
       rw [h5, if_pos rfl]
       rfl
      ·refine hkr.keep fun q hq => asGet_put_ne (fun e => ?_) _ _
       have h6 := hkne q hq
       have h7 := (hkr.seg q hq).2.1
       have := jName_inj (by omega) (by omega) e
       omega
      ·rw [hf3]
       simp only [List.length_take]
       omega
      ·rw [jsizes_put]
       have h8 := jsizes_get hf1
       rw [hf3]
       simp only [List.length_take]
       omega
     ·rw [if_neg hlt, if_neg hlt, List.append_nil]
      exact ⟨fs1, h1, hkr, ⟨f, hf1, by omega⟩, by omega⟩
    obtain ⟨fs2, h4, h5, h6, h7⟩ := hmid
    by_cases hnew : 600 ≤ c.long
    ·rw [decide_eq_true hnew]
     simp only [if_true]
     have := save_fin h h4 (K := kr ++ [c]) (h5.snoc hcg (by rw [hck]; exact hsm.2.1) (by rw [hck]; exact h6) (fun t ht => by rw [hck]; exact hkne t ht)) (s0 := ⟨s.k + 1, e0.ix, c.last.2, [], [((jHead e0.ix c.last.2).length : Int)]⟩) ⟨List.pairwise_singleton _ _, fun n hn => by rw [List.mem_singleton.1 hn]; omega, rfl⟩ (by show 1 ≤ s.k + 1; have := hsm.2.1; omega) (fun t ht => by
      show t.k < s.k + 1
      rcases List.mem_append.1 ht with ht | ht
      ·have := hkne t ht; omega
      ·rw [List.mem_singleton.1 ht, hck]; omega) (jHead e0.ix c.last.2) (by show ((jHead e0.ix c.last.2).length : Int) ≤ _; omega) _ h7 L
     exact this
    ·rw [decide_eq_false hnew]
     simp only [Bool.false_eq_true, if_false, List.dropLast_concat]
     obtain ⟨f, h8, h9⟩ := h6
     exact save_fin h h4 (K := kr) h5 (s0 := c) hcg (by rw [hck]; exact hsm.2.1.1) (fun t ht => by rw [hck]; exact hkne t ht) [] (by rw [hck, h8]; simp only [Option.getD_some, List.length_nil]; omega) _ h7 L
end
end Go.Proofs.YtgeofijddhflaaaGreatDoor
set_option linter.unusedVariables false
set_option linter.unusedSimpArgs false
namespace Go.Proofs.YtgeofijddhflaaaGreatDoor
open Oct
def saveR (j : JnP) (d : DkD) (l : List EntP) (ix : Int) : Int × JnP × DkD :=
  let n := keepN j.segs ix j.segs.length
  let gone := (j.segs.drop n).reverse
  let freed1 := (gone.map SegP.long).foldl (· + ·) 0
  let do1 := gone.map fun s => JAct.rm (jName s.k)
  let kept := j.segs.take n
  let cut := kept.getLast?.map fun s => (s, s.ahead ix)
  let freed := freed1 + (match cut with | some (s, c) => if c.long < s.long then s.long - c.long else 0 | none => 0)
  let do2 := match cut with | some (s, c) => (if c.long < s.long then [JAct.cut (jName s.k) c.long] else []) | none => []
  let kept2 := match cut with | some (_, c) => kept.dropLast ++ [c] | none => kept
  let new := match cut with | some (_, c) => decide (600 ≤ c.long) | none => true
  let fk := match cut with | some (s, _) => s.k + 1 | none => 1
  let ft := match cut with | some (_, c) => c.last.2 | none => 0
  let hd := jHead ix ft
  let s0 : SegP := if new = true then ⟨fk, ix, ft, [], [(hd.length : Int)]⟩ else (match cut with | some (_, c) => c | none => ⟨fk, ix, ft, [], []⟩)
  let b := (if new = true then hd else []) ++ (l.map jPiece).flatten
  let s1 := addEnts s0 l
  let segs := (if new = true then kept2 else kept2.dropLast) ++ [s1]
  if 999999999 < s1.k then (1, j, d) else if d.free + freed < (b.length : Int) then (52, j, d) else
  let r := runJ (do1 ++ do2 ++ [.app (jName s1.k) b, .sync (jName s1.k)]) d
  (r.1, if r.1 = 0 then { j with segs := segs } else { j with bad := r.1 }, r.2)
theorem saveJ_go {j : JnP} {d : DkD} {l : List EntP} {e0 : EntP} {r : List EntP} (hb : j.bad = 0) (hm : mayJ j l = 0) (hl : l = e0 :: r) : saveJ j d l = saveR j d l e0.ix := by
 subst hl
 unfold saveJ
 rw [if_neg (by rw [hb]; simp), if_neg (by rw [hm]; simp)]
 rfl
def goneK (j : JnP) (k : Nat) : List SegP := (j.segs.drop k).reverse
theorem goneK_step {j : JnP} {k : Nat} (h : k < j.segs.length) : goneK j k = goneK j (k + 1) ++ [j.segs[k]] := by
 unfold goneK
 rw [List.drop_eq_getElem_cons h, List.reverse_cons]
def freedK (j : JnP) (k : Nat) : Int := ((goneK j k).map SegP.long).foldl (· + ·) 0
theorem freedK_step {j : JnP} {k : Nat} (h : k < j.segs.length) : freedK j k = freedK j (k + 1) + j.segs[k].long := by
 unfold freedK
 rw [goneK_step h, List.map_append, List.foldl_append]
 rfl
theorem freedK_le {j : JnP} (hl : ∀ s ∈ j.segs, 0 ≤ s.long ∧ s.long ≤ 1000000000000) (n : Nat) (hn : j.segs.length = n) : ∀ i, i ≤ n → 0 ≤ freedK j (n - i) ∧ freedK j (n - i) ≤ i * 1000000000000
 | 0, _ => by
  unfold freedK goneK
  rw [Nat.sub_zero, List.drop_eq_nil_of_le (by omega)]
  simp
 | i + 1, hi => by
  have ih := freedK_le hl n hn i (by omega)
  have h1 : n - (i + 1) < j.segs.length := by omega
  rw [freedK_step h1, show n - (i + 1) + 1 = n - i by omega]
  have := hl _ (List.getElem_mem h1)
  omega
def saveF (j : JnP) (d : DkD) (l : List EntP) (do12 : List JAct) (freed : Int) (K : List SegP) (s0 : SegP) (bh : List UInt8) : Int × JnP × DkD :=
 if 999999999 < (addEnts s0 l).k then (1, j, d) else if d.free + freed < ((bh ++ (l.map jPiece).flatten).length : Int) then (52, j, d) else
  ((runJ (do12 ++ [.app (jName (addEnts s0 l).k) (bh ++ (l.map jPiece).flatten), .sync (jName (addEnts s0 l).k)]) d).1, if (runJ (do12 ++ [.app (jName (addEnts s0 l).k) (bh ++ (l.map jPiece).flatten), .sync (jName (addEnts s0 l).k)]) d).1 = 0 then { j with segs := K ++ [addEnts s0 l] } else { j with bad := (runJ (do12 ++ [.app (jName (addEnts s0 l).k) (bh ++ (l.map jPiece).flatten), .sync (jName (addEnts s0 l).k)]) d).1 }, (runJ (do12 ++ [.app (jName (addEnts s0 l).k) (bh ++ (l.map jPiece).flatten), .sync (jName (addEnts s0 l).k)]) d).2)
def cutActs (s c : SegP) : List JAct := if c.long < s.long then [JAct.cut (jName s.k) c.long] else []
def cutFree (s c : SegP) : Int := if c.long < s.long then s.long - c.long else 0
section
variable {j : JnP} {d : DkD} {l : List EntP} {ix : Int} {N : Nat}
theorem saveR_none (hN : N = keepN j.segs ix j.segs.length) (h0 : j.segs.take N = []) : saveR j d l ix = saveF j d l ((goneK j N).map fun s => JAct.rm (jName s.k)) (freedK j N + 0) [] ⟨1, ix, 0, [], [((jHead ix 0).length : Int)]⟩ (jHead ix 0) := by
 unfold saveR saveF freedK goneK
 dsimp only
 rw [← hN, h0]
 simp only [List.getLast?_nil, Option.map_none, if_true, List.append_nil]
theorem saveR_new (hN : N = keepN j.segs ix j.segs.length) {kr : List SegP} {s c : SegP} (h0 : j.segs.take N = kr ++ [s]) (hc : c = s.ahead ix) (hn : 600 ≤ c.long) : saveR j d l ix = saveF j d l ((goneK j N).map (fun s => JAct.rm (jName s.k)) ++ cutActs s c) (freedK j N + cutFree s c) (kr ++ [c]) ⟨s.k + 1, ix, c.last.2, [], [((jHead ix c.last.2).length : Int)]⟩ (jHead ix c.last.2) := by
 unfold saveR saveF freedK goneK cutActs cutFree
 dsimp only
 rw [← hN, h0]
 simp only [List.getLast?_append, List.getLast?_singleton, Option.some_or, Option.map_some, List.dropLast_concat, ← hc, decide_eq_true hn, if_true]
theorem saveR_old (hN : N = keepN j.segs ix j.segs.length) {kr : List SegP} {s c : SegP} (h0 : j.segs.take N = kr ++ [s]) (hc : c = s.ahead ix) (hn : ¬ 600 ≤ c.long) : saveR j d l ix = saveF j d l ((goneK j N).map (fun s => JAct.rm (jName s.k)) ++ cutActs s c) (freedK j N + cutFree s c) kr c [] := by
 unfold saveR saveF freedK goneK cutActs cutFree
 dsimp only
 rw [← hN, h0]
 simp only [List.getLast?_append, List.getLast?_singleton, Option.some_or, Option.map_some, List.dropLast_concat, ← hc, decide_eq_false hn, Bool.false_eq_true, if_false]
end
theorem addEnts_snoc : ∀ (a : List EntP) (s : SegP) (e : EntP), addEnts s (a ++ [e]) = { addEnts s a with l := (addEnts s a).l ++ [e], ends := (addEnts s a).ends ++ [(addEnts s a).long + (jPiece e).length] }
 | [], s, e => rfl
 | x :: r, s, e => by
  show addEnts _ (r ++ [e]) = _
  rw [addEnts_snoc r]
  rfl
theorem addEnts_len : ∀ (a : List EntP) (s : SegP), (addEnts s a).l = s.l ++ a ∧ (addEnts s a).ends.length = s.ends.length + a.length
 | [], s => by simp [addEnts]
 | x :: r, s => by
  obtain ⟨h1, h2⟩ := addEnts_len r { s with l := s.l ++ [x], ends := s.ends ++ [s.long + (jPiece x).length] }
  show (addEnts { s with l := s.l ++ [x], ends := s.ends ++ [s.long + (jPiece x).length] } r).l = _ ∧ _
  refine ⟨by rw [h1]; simp, ?_⟩
  show (addEnts { s with l := s.l ++ [x], ends := s.ends ++ [s.long + (jPiece x).length] } r).ends.length = _
  rw [h2]
  simp
  omega
theorem addEnts_long : ∀ (a : List EntP) (s : SegP), (addEnts s a).long = s.long + ((a.map jPiece).flatten.length : Int)
 | [], s => by simp [addEnts]
 | x :: r, s => by
  show (addEnts { s with l := s.l ++ [x], ends := s.ends ++ [s.long + (jPiece x).length] } r).long = _
  rw [addEnts_long r]
  have h : SegP.long { s with l := s.l ++ [x], ends := s.ends ++ [s.long + (jPiece x).length] } = s.long + (jPiece x).length := by
   unfold SegP.long
   simp
  rw [h]
  simp only [List.map_cons, List.flatten_cons, List.length_append]
  omega
theorem freedK_sum (j : JnP) (N : Nat) : freedK j N = ((j.segs.drop N).map SegP.long).sum := by
 unfold freedK goneK
 rw [foldl_add, List.map_reverse, List.sum_reverse]
 omega
theorem freed_le {j : JnP} {m1 : Nat} (h : m1 < j.segs.length) (hp : ∀ s ∈ j.segs, 0 ≤ s.long) {c : SegP} (hc : 0 ≤ c.long) : freedK j (m1 + 1) + cutFree j.segs[m1] c ≤ (j.segs.map SegP.long).sum := by
 have h1 : (j.segs.map SegP.long).sum = ((j.segs.take m1).map SegP.long).sum + ((j.segs.drop m1).map SegP.long).sum := by
  rw [← List.sum_append, ← List.map_append, List.take_append_drop]
 have h2 : 0 ≤ ((j.segs.take m1).map SegP.long).sum := by
  have : ∀ l : List SegP, (∀ s ∈ l, 0 ≤ s.long) → 0 ≤ (l.map SegP.long).sum := by
   intro l
   induction l with
   | nil => intro _; simp
   | cons x r ih =>
    intro hl
    have := ih (fun s hs => hl s (List.mem_cons_of_mem _ hs))
    have := hl x (List.mem_cons_self ..)
    rw [List.map_cons, List.sum_cons]
    omega
  exact this _ (fun s hs => hp s (List.mem_of_mem_take hs))
 rw [List.drop_eq_getElem_cons h, List.map_cons, List.sum_cons] at h1
 rw [freedK_sum]
 have h3 := hp _ (List.getElem_mem h)
 unfold cutFree
 split <;> omega
end Go.Proofs.YtgeofijddhflaaaGreatDoor
