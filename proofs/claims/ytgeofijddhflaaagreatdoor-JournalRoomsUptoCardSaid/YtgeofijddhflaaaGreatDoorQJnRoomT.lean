/- A journal on an unarmed disk, in plain words: what Save asks for is met. No condition. -/
import Derived.Test.YtgeofijddhflaaaGreatDoorQJnSaveP
import Derived.Test.YtgeofijddhflaaaGreatDoorQJnSeg
import Derived.Test.YtgeofijddhflaaaGreatDoorQJnMeta
import Derived.Test.YtgeofijddhflaaaGreatDoorQJnMay
set_option linter.unusedVariables false
set_option linter.unusedSimpArgs false
namespace Go.Proofs.YtgeofijddhflaaaGreatDoor
open Oct
theorem costs_append (a b : List JAct) : costs (a ++ b) = costs a + costs b := by unfold costs; rw [List.map_append, List.sum_append]
theorem costs_rms (l : List SegP) : costs (l.map fun s => JAct.rm (jName s.k)) = 0 := by
 induction l with
 | nil => rfl
 | cons x r ih => unfold costs at ih ⊢; rw [List.map_cons, List.map_cons, List.sum_cons, ih]; rfl
theorem costs_cut (s c : SegP) : costs (cutActs s c) = 0 := by
 unfold cutActs
 split <;> rfl
theorem jHead_len {f t : Int} (hf : f ≤ 9223372036854775807) (ht : -9223372036854775808 ≤ t ∧ t ≤ 9223372036854775807) : (jHead f t).length ≤ 1048600 := by
 refine closeS_lenJ ?_
 have h1 : (encI f).length ≤ 10 := by
  unfold encI
  split
  ·simp
  ·exact enc_len _ (by omega)
 have h2 : (numsS [t]).length ≤ 10 := numsS_len (z := [t]) (by intro n hn; obtain rfl := List.mem_singleton.1 hn; exact ht)
 rw [List.length_append]
 omega
theorem SegP.last_tm {s : SegP} (h : SegB s) : -9223372036854775808 ≤ s.last.2 ∧ s.last.2 ≤ 9223372036854775807 := by
 unfold SegP.last
 rcases List.eq_nil_or_concat s.l with h0 | ⟨r, e, h0⟩
 ·rw [h0]; exact h.term
 ·rw [List.concat_eq_append] at h0
  have := h.ent e (by rw [h0]; simp)
  rw [h0]
  simp only [List.getLast?_append, List.getLast?_singleton, Option.some_or]
  exact this.2.1
theorem SegB.aheadB {s : SegP} (h : SegB s) (ix : Int) : SegB (s.ahead ix) := ⟨h.k, h.first, h.term, fun e he => h.ent e (List.mem_of_mem_take he), fun n hn => h.ends n (List.mem_of_mem_take hn)⟩
theorem saveJ_shape (j : JnP) (d : DkD) (l : List EntP) (hB : ∀ s ∈ j.segs, SegB s) (hl : ∀ e ∈ l, e.ix ≤ 9223372036854775807) : (∃ c, saveJ j d l = (c, j, d)) ∨ ∃ (ix : Int) (do12 : List JAct) (fr : Int) (K : List SegP) (s0 : SegP) (bh : List UInt8), saveJ j d l = saveF j d l do12 fr K s0 bh ∧ costs do12 = 0 ∧ bh.length ≤ 1048600 ∧ K.length ≤ j.segs.length ∧ (∀ s ∈ K, s ∈ j.segs ∨ ∃ t ∈ j.segs, s = t.ahead ix) ∧ ((∃ t ∈ j.segs, s0 = t.ahead ix) ∨ s0.l = []) := by
 by_cases hb : j.bad = 0
 ·by_cases hm : mayJ j l = 0
  ·cases l with
   | nil =>
    refine .inl ⟨0, ?_⟩
    unfold saveJ
    rw [if_neg (by rw [hb]; simp), if_neg (by rw [hm]; simp)]
   | cons e0 r =>
    have hx := hl e0 (List.mem_cons_self ..)
    have hgo := saveJ_go (d := d) hb hm (rfl : e0 :: r = e0 :: r)
    obtain ⟨N, hN⟩ : ∃ N, N = keepN j.segs e0.ix j.segs.length := ⟨_, rfl⟩
    have hmem : ∀ s ∈ j.segs.take N, s ∈ j.segs := fun s hs => List.mem_of_mem_take hs
    rcases List.eq_nil_or_concat (j.segs.take N) with h0 | ⟨kr, s, h0⟩
    ·exact .inr ⟨e0.ix, _, _, _, _, _, hgo.trans (saveR_none hN h0), costs_rms _, jHead_len hx (by omega), by simp, (fun s hs => by cases hs), .inr rfl⟩
    ·rw [List.concat_eq_append] at h0
     have hs : s ∈ j.segs := hmem s (by rw [h0]; simp)
     have hkl : kr.length + 1 ≤ j.segs.length := by
      have := congrArg List.length h0
      rw [List.length_take, List.length_append] at this
      simp at this
      omega
     have hkr : ∀ t ∈ kr, t ∈ j.segs := fun t ht => hmem t (by rw [h0]; simp [ht])
     have hc0 : costs ((goneK j N).map (fun s => JAct.rm (jName s.k)) ++ cutActs s (s.ahead e0.ix)) = 0 := by rw [costs_append, costs_rms, costs_cut]
     by_cases hn : 600 ≤ (s.ahead e0.ix).long
     ·refine .inr ⟨e0.ix, _, _, _, _, _, hgo.trans (saveR_new hN h0 rfl hn), hc0, jHead_len hx (SegP.last_tm ((hB s hs).aheadB _)), by simp; omega, fun t ht => ?_, .inr rfl⟩
      rcases List.mem_append.1 ht with ht | ht
      ·exact .inl (hkr t ht)
      ·exact .inr ⟨s, hs, List.mem_singleton.1 ht⟩
     ·exact .inr ⟨e0.ix, _, _, _, _, _, hgo.trans (saveR_old hN h0 rfl hn), hc0, by simp, by omega, fun t ht => .inl (hkr t ht), .inl ⟨s, hs, rfl⟩⟩
  ·refine .inl ⟨mayJ j l, ?_⟩
   unfold saveJ
   rw [if_neg (by rw [hb]; simp), if_pos hm]
 ·refine .inl ⟨j.bad, ?_⟩
  unfold saveJ
  rw [if_pos hb]
theorem saveF_segs (j : JnP) (d : DkD) (l : List EntP) (do12 : List JAct) (fr : Int) (K : List SegP) (s0 : SegP) (bh : List UInt8) : ((saveF j d l do12 fr K s0 bh).2.1.segs = j.segs ∨ (saveF j d l do12 fr K s0 bh).2.1.segs = K ++ [addEnts s0 l]) ∧ ((saveF j d l do12 fr K s0 bh).2.2 = d ∨ (saveF j d l do12 fr K s0 bh).2.2 = (runJ (do12 ++ [.app (jName (addEnts s0 l).k) (bh ++ (l.map jPiece).flatten), .sync (jName (addEnts s0 l).k)]) d).2) := by
 unfold saveF
 split
 ·exact ⟨.inl rfl, .inl rfl⟩
 ·split
  ·exact ⟨.inl rfl, .inl rfl⟩
  ·refine ⟨?_, .inr rfl⟩
   dsimp only
   split
   ·exact .inr rfl
   ·exact .inl rfl
def rbD (k : Nat) : Nat := k * 20000000
def rbE (k : Nat) : Nat := k * 1048576
theorem rbD_succ (k : Nat) : rbD (k + 1) = rbD k + 20000000 := Nat.succ_mul k 20000000
theorem rbE_succ (k : Nat) : rbE (k + 1) = rbE k + 1048576 := Nat.succ_mul k 1048576
theorem rbD_mono {k k' : Nat} (h : k ≤ k') : rbD k ≤ rbD k' := Nat.mul_le_mul_right _ h
theorem rbE_mono {k k' : Nat} (h : k ≤ k') : rbE k ≤ rbE k' := Nat.mul_le_mul_right _ h
structure RB (k : Nat) (j : JnP) (d : DkD) : Prop where
 dk : JDk (rbD k) d
 len : j.segs.length ≤ k
 ent : ∀ s ∈ j.segs, s.l.length ≤ rbE k
set_option maxRecDepth 100000 in
theorem RB.mono {k k' : Nat} {j : JnP} {d : DkD} (h : RB k j d) (hk : k ≤ k') : RB k' j d :=
 ⟨h.dk.mono (rbD_mono hk), Nat.le_trans h.len hk, fun s hs => Nat.le_trans (h.ent s hs) (rbE_mono hk)⟩
theorem ahead_len (s : SegP) (ix : Int) : (s.ahead ix).l.length ≤ s.l.length := by
 show (s.l.take _).length ≤ _
 rw [List.length_take]
 omega
set_option maxRecDepth 100000 in
theorem RB.save {k : Nat} {j : JnP} {d : DkD} (h : RB k j d) (l : List EntP) (hB : ∀ s ∈ j.segs, SegB s) (hl : ∀ e ∈ l, e.ix ≤ 9223372036854775807) (hn : l.length ≤ 1048576) (hp : (l.map jPiece).flatten.length ≤ 18000000) : RB (k + 1) (saveJ j d l).2.1 (saveJ j d l).2.2 := by
 rcases saveJ_shape j d l hB hl with ⟨c, hc⟩ | ⟨ix, do12, fr, K, s0, bh, he, hc, hb, hK, hKm, h0⟩
 ·rw [hc]; exact h.mono (by omega)
 ·rw [he]
  obtain ⟨h1, h2⟩ := saveF_segs j d l do12 fr K s0 bh
  have hs0 : s0.l.length ≤ rbE k := by
   rcases h0 with ⟨t, ht, rfl⟩ | h0
   ·exact Nat.le_trans (ahead_len t ix) (h.ent t ht)
   ·rw [h0]; simp
  have hx := rbE_succ k
  have hx2 := rbD_succ k
  refine ⟨?_, ?_, fun s hs => ?_⟩
  ·rcases h2 with h2 | h2
   ·rw [h2]; exact h.dk.mono (by omega)
   ·rw [h2]
    refine (JDk.runs _ h.dk).mono ?_
    rw [costs_append, hc]
    have : costs [JAct.app (jName (addEnts s0 l).k) (bh ++ (l.map jPiece).flatten), .sync (jName (addEnts s0 l).k)] = (bh ++ (l.map jPiece).flatten).length + 1 := by simp [costs, JAct.cost]
    rw [this, List.length_append]
    omega
  ·rcases h1 with h1 | h1
   ·rw [h1]; have := h.len; omega
   ·rw [h1, List.length_append]
    have := h.len
    simp
    omega
  ·rcases h1 with h1 | h1
   ·rw [h1] at hs; have := h.ent s hs; omega
   ·rw [h1] at hs
    rcases List.mem_append.1 hs with hs | hs
    ·rcases hKm s hs with h3 | ⟨t, ht, rfl⟩
     ·have := h.ent s h3; omega
     ·have := h.ent t ht; have := ahead_len t ix; omega
    ·rw [List.mem_singleton.1 hs, (addEnts_len l s0).1, List.length_append]
     omega
set_option maxRecDepth 100000 in
theorem RB.setMeta {k : Nat} {j : JnP} {d : DkD} (h : RB k j d) (t v : Int) (ht : -9223372036854775808 ≤ t ∧ t ≤ 9223372036854775807) (hv : -9223372036854775808 ≤ v ∧ v ≤ 9223372036854775807) : RB (k + 1) (setMetaJ j d t v).2.1 (setMetaJ j d t v).2.2 := by
 have hml : (jMeta t v).length ≤ 1048600 := by
  refine closeS_lenJ ?_
  have := numsS_len (z := [t, v]) (by
   intro n hn
   simp only [List.mem_cons, List.not_mem_nil, or_false] at hn
   rcases hn with rfl | rfl
   ·exact ht
   ·exact hv)
  simp at this
  omega
 have hx := rbE_succ k
 have hx2 := rbD_succ k
 unfold setMetaJ
 split
 ·exact h.mono (by omega)
 ·split
  ·exact h.mono (by omega)
  ·obtain ⟨al, hal⟩ : ∃ al, al = (if (d.read metaNew).2 = 0 then [JAct.rm metaNew] else []) ++ [JAct.app metaNew (jMeta t v), .sync metaNew, .ren] := ⟨_, rfl⟩
   dsimp only
   rw [← hal]
   have hco : costs al ≤ 1048601 := by
    rw [hal, costs_append]
    have h1 : costs (if (d.read metaNew).2 = 0 then [JAct.rm metaNew] else []) = 0 := by split <;> rfl
    have h2 : costs [JAct.app metaNew (jMeta t v), .sync metaNew, .ren] = (jMeta t v).length + 1 := by simp [costs, JAct.cost]
    rw [h1, h2]
    omega
   have hd : JDk (rbD (k + 1)) (runJ al d).2 := (JDk.runs al h.dk).mono (by omega)
   clear hal
   split
   ·exact h.mono (by omega)
   ·obtain ⟨r, hr⟩ : ∃ r, r = runJ al d := ⟨_, rfl⟩
    rw [← hr] at hd ⊢
    have e : (if r.1 = 0 then (⟨t, v, j.segs, 0⟩ : JnP) else { j with bad := r.1 }).segs = j.segs := by split <;> rfl
    refine ⟨hd, ?_, fun s hs => ?_⟩
    ·show (if r.1 = 0 then (⟨t, v, j.segs, 0⟩ : JnP) else { j with bad := r.1 }).segs.length ≤ _
     rw [e]
     have := h.len
     omega
    ·have hs2 : s ∈ (if r.1 = 0 then (⟨t, v, j.segs, 0⟩ : JnP) else { j with bad := r.1 }).segs := hs
     rw [e] at hs2
     have := h.ent s hs2
     omega
set_option maxRecDepth 100000 in
theorem RB.compact {k : Nat} {j : JnP} {d : DkD} (h : RB k j d) (ix t : Int) (hix : -9223372036854775808 ≤ ix ∧ ix ≤ 9223372036854775807) (ht : -9223372036854775808 ≤ t ∧ t ≤ 9223372036854775807) : RB (k + 1) (compactJ j d ix t).2.1 (compactJ j d ix t).2.2 := by
 have hx := rbE_succ k
 have hx2 := rbD_succ k
 rw [compactJ_eq]
 split
 ·exact h.mono (by omega)
 ·split
  ·exact h.mono (by omega)
  ·rename_i hb hbad
   have hi : ix ≤ 9223372036854775805 := by
    unfold badC maxInt at hbad
    omega
   have hhl : (jHead (ix + 1) t).length ≤ 1048600 := jHead_len (by omega) ht
   obtain ⟨new, hnew⟩ : ∃ b, b = newC j ix t := ⟨_, rfl⟩
   obtain ⟨s, hs⟩ : ∃ s, s = newS j ix t := ⟨_, rfl⟩
   rw [← hnew, ← hs]
   have hsl : s.l = [] := by rw [hs]; rfl
   have hlen := h.len
   unfold compactR
   split
   ·exact h.mono (by omega)
   ·split
    ·exact h.mono (by omega)
    ·dsimp only
     obtain ⟨n, hn⟩ : ∃ n, n = fromN (if new = true then j.segs ++ [s] else j.segs) ix (if new = true then j.segs ++ [s] else j.segs).length (if new = true then j.segs.length else 0) := ⟨_, rfl⟩
     rw [← hn]
     have hsg : (if new = true then j.segs ++ [s] else j.segs).length ≤ k + 1 := by split <;> (try rw [List.length_append]) <;> (try simp) <;> omega
     have hse : ∀ q ∈ (if new = true then j.segs ++ [s] else j.segs), q.l.length ≤ rbE (k + 1) := fun q hq => by
      have h1 : q ∈ j.segs ∨ q = s := by
       split at hq
       ·rcases List.mem_append.1 hq with hq | hq
        ·exact .inl hq
        ·exact .inr (List.mem_singleton.1 hq)
       ·exact .inl hq
      rcases h1 with h1 | h1
      ·have := h.ent q h1; omega
      ·rw [h1, hsl]; simp
     obtain ⟨S, hS⟩ : ∃ S, S = (if new = true then j.segs ++ [s] else j.segs) := ⟨_, rfl⟩
     rw [← hS] at hsg hse ⊢
     obtain ⟨al, hal⟩ : ∃ al, al = (if new = true then [JAct.app (jName s.k) (jHead (ix + 1) t), .sync (jName s.k)] else []) ++ (S.take n).map fun x => JAct.rm (jName x.k) := ⟨_, rfl⟩
     rw [← hal]
     have hco : costs al ≤ 1048601 := by
      rw [hal, costs_append, costs_rms]
      have h1 : costs (if new = true then [JAct.app (jName s.k) (jHead (ix + 1) t), .sync (jName s.k)] else []) ≤ (jHead (ix + 1) t).length + 1 := by split <;> simp [costs, JAct.cost]
      omega
     have hd : JDk (rbD (k + 1)) (runJ al d).2 := (JDk.runs al h.dk).mono (by omega)
     obtain ⟨r, hr⟩ : ∃ r, r = runJ al d := ⟨_, rfl⟩
     rw [← hr] at hd ⊢
     have e : (if r.1 = 0 then { j with segs := S.drop n } else { j with bad := r.1 } : JnP).segs = S.drop n ∨ (if r.1 = 0 then { j with segs := S.drop n } else { j with bad := r.1 } : JnP).segs = j.segs := by
      split
      ·exact .inl rfl
      ·exact .inr rfl
     refine ⟨hd, ?_, fun q hq => ?_⟩
     ·show (if r.1 = 0 then { j with segs := S.drop n } else { j with bad := r.1 } : JnP).segs.length ≤ _
      rcases e with e | e
      ·rw [e, List.length_drop]; omega
      ·rw [e]; omega
     ·have hq2 : q ∈ (if r.1 = 0 then { j with segs := S.drop n } else { j with bad := r.1 } : JnP).segs := hq
      rcases e with e | e
      ·rw [e] at hq2; exact hse q (List.mem_of_mem_drop hq2)
      ·rw [e] at hq2; have := h.ent q hq2; omega
end Go.Proofs.YtgeofijddhflaaaGreatDoor
set_option linter.unusedVariables false
set_option linter.unusedSimpArgs false
namespace Go.Proofs.YtgeofijddhflaaaGreatDoor
open Oct
theorem RI.sum {j : JnP} {d : DkD} (h : RI j d) : (j.segs.map SegP.long).sum ≤ sizes d.fs := by
 obtain ⟨pw, room, fs⟩ := d
 obtain ⟨fs', _, _, h3⟩ := h.segs.cutBack (pw := pw) (room := room) h.calm 0
 have h4 := sizes_nonneg fs'
 rw [foldl_add, List.map_reverse, List.sum_reverse, List.drop_zero] at h3
 simp only at h3 ⊢
 omega
theorem SegG.ends_le {s : SegP} (h : SegG s) : s.ends ≠ [] ∧ ∀ n ∈ s.ends, 0 ≤ n ∧ n ≤ s.long := ⟨h.ne, fun n hn => ⟨h.pos n hn, lastD_ge h.rise n hn⟩⟩
theorem RI.long_le {j : JnP} {d : DkD} (h : RI j d) : ∀ s ∈ j.segs, 0 ≤ s.long ∧ s.long ≤ sizes d.fs := fun s hs => by
 obtain ⟨hg, _, f, hf1, hf2⟩ := h.segs.seg s hs
 have h1 := jsizes_mem (asGet_some hf1)
 simp only at h1
 exact ⟨hg.long0, by omega⟩
structure SavePre (j : JnP) (d : DkD) : Prop where
 seg : j.segs.length ≤ 1000000
 ks : ∀ s ∈ j.segs, 1 ≤ s.k ∧ s.k ≤ 999999999
 long : ∀ s ∈ j.segs, s.l.length ≤ 100000000 ∧ 0 ≤ s.long ∧ s.long ≤ 1000000000000
 ends : ∀ s ∈ j.segs, s.ends ≠ [] ∧ ∀ n ∈ s.ends, 0 ≤ n ∧ n ≤ 1000000000000
 sum : (j.segs.map SegP.long).sum ≤ sizes d.fs
theorem rbD_60 {k : Nat} (h : k ≤ 90) : rbD k ≤ 1800000000 := rbD_mono h
theorem rbE_60 {k : Nat} (h : k ≤ 90) : rbE k ≤ 94371840 := rbE_mono h
theorem RI.pre {j : JnP} {d : DkD} {k : Nat} (h : RI j d) (hb : RB k j d) (hk : k ≤ 90) : SavePre j d := by
 have h1 := hb.dk.sz
 have h2 := rbD_60 hk
 have h3 := rbE_60 hk
 have h4 := hb.len
 refine ⟨by omega, fun s hs => (h.segs.seg s hs).2.1, fun s hs => ?_, fun s hs => ?_, h.sum⟩
 ·have := hb.ent s hs
  have := h.long_le s hs
  omega
 ·have h5 := (h.segs.seg s hs).1.ends_le
  have h6 := h.long_le s hs
  refine ⟨h5.1, fun n hn => ?_⟩
  have := h5.2 n hn
  omega
theorem jPiece_len {e : EntP} (ht : -9223372036854775808 ≤ e.tm ∧ e.tm ≤ 9223372036854775807) (hk : -9223372036854775808 ≤ e.kd ∧ e.kd ≤ 9223372036854775807) : (jPiece e).length ≤ e.b.length + 60 := by
 unfold jPiece
 have h1 := numsS_len (z := [e.tm, e.kd]) (by
  intro n hn
  simp only [List.mem_cons, List.not_mem_nil, or_false] at hn
  rcases hn with rfl | rfl
  ·exact ht
  ·exact hk)
 have h2 : (encT e.b).length ≤ e.b.length + 10 ∧ (encT e.b).length ≤ 65545 := by
  unfold encT
  split
  ·simp
  ·have := enc_len e.b.length (by omega)
   rw [List.length_append]
   omega
 simp at h1
 have h3 : (numsS [e.tm, e.kd] ++ encT e.b).length ≤ e.b.length + 30 ∧ (numsS [e.tm, e.kd] ++ encT e.b).length ≤ 70000 := by rw [List.length_append]; omega
 rw [closeS_eq (by omega), List.length_append, List.length_append, Crc.four_length]
 have := enc_len (numsS [e.tm, e.kd] ++ encT e.b).length (by omega)
 omega
theorem pieces_len : ∀ (l : List EntP), (∀ e ∈ l, (-9223372036854775808 ≤ e.tm ∧ e.tm ≤ 9223372036854775807) ∧ (-9223372036854775808 ≤ e.kd ∧ e.kd ≤ 9223372036854775807)) → (l.map jPiece).flatten.length ≤ (l.map fun e => e.b.length + 5).sum * 12
 | [], _ => by simp
 | e :: r, h => by
  have h1 := pieces_len r (fun x hx => h x (List.mem_cons_of_mem _ hx))
  have h2 := h e (List.mem_cons_self ..)
  have h3 := jPiece_len h2.1 h2.2
  simp only [List.map_cons, List.flatten_cons, List.length_append, List.sum_cons]
  omega
end Go.Proofs.YtgeofijddhflaaaGreatDoor
