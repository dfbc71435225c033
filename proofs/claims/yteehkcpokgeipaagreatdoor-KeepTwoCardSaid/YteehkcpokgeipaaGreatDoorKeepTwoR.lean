/- keep.Save on an unarmed disk with room, in plain words (pavanelaw23.KeepTwo). No condition. -/
import Derived.Test.YteehkcpokgeipaaGreatDoorKeepSave
set_option linter.unusedVariables false
namespace Go.Proofs.YteehkcpokgeipaaGreatDoor

theorem itoa_nat (n : Int) (hn : 0 ≤ n) : Lib.itoa n = Lib.decDigits n.toNat := by
  unfold Lib.itoa
  rw [if_neg (by omega)]
theorem idxOf_sName (n : Int) (h0 : 0 ≤ n) (h1 : n ≤ 1099511627776) : idxOf (sName n) = some n := by
  have hp := parse_digits n.toNat (by omega) [] (fun c h => by cases h)
  rw [List.append_nil, ← itoa_nat n h0] at hp
  have hr : ((n.toNat : Nat) : Int) = n := by omega
  rw [hr] at hp
  show (if (115 : UInt8) = 115 ∧ (parseS (Lib.itoa n)).2.2 = 0 ∧ ((parseS (Lib.itoa n)).2.1 : Int) = ((Lib.itoa n).length : Int) ∧ outB (parseS (Lib.itoa n)).1 = false then some (parseS (Lib.itoa n)).1 else none) = some n
  rw [hp]
  have ho : outB n = false := by
    unfold outB
    simp
    omega
  rw [if_pos ⟨rfl, rfl, rfl, ho⟩]
theorem sName_inj {a b : Int} (ha : 0 ≤ a ∧ a ≤ 1099511627776) (hb : 0 ≤ b ∧ b ≤ 1099511627776) (h : sName a = sName b) : a = b := by
  have h1 := idxOf_sName a ha.1 ha.2
  rw [h, idxOf_sName b hb.1 hb.2] at h1
  injection h1 with h1
  exact h1.symm
theorem sName_new (n : Int) (h0 : 0 ≤ n) : sName n ≠ newN := fun e => by
  unfold sName newN at e
  injection e with _ e
  rw [itoa_nat n h0] at e
  have h := (decDigits_val n.toNat).2.1 46 (by rw [e]; simp)
  exact absurd h (by decide)
section
variable {α : Type}
theorem asGet_none {n : Nm} {l : List (Nm × α)} (h : ∀ q ∈ l, q.1 ≠ n) : asGet n l = none := by
  unfold asGet
  rw [List.find?_eq_none.2 (fun q hq => by simpa using h q hq)]
  rfl
theorem asGet_ne {l : List (Nm × α)} {q : Nm × α} (h : q ∈ l) : ∃ f, asGet q.1 l = some f := by
  cases e : asGet q.1 l with
  | some f => exact ⟨f, rfl⟩
  | none =>
    have := asDel_none e
    rw [← this] at h
    exact absurd rfl (asDel_mem.1 h).2
def Apt (l : List (Nm × α)) : Prop := l.Pairwise fun p q => p.1 ≠ q.1
theorem Apt.del {l : List (Nm × α)} (h : Apt l) (n : Nm) : Apt (asDel n l) := List.Pairwise.filter _ h
theorem Apt.ins {x : Nm × α} : ∀ {l : List (Nm × α)}, Apt l → (∀ q ∈ l, q.1 ≠ x.1) → Apt (asIns x l)
  | [], _, _ => by unfold asIns Apt; simp
  | y :: r, h, hx => by
    have h2 := List.pairwise_cons.1 h
    unfold asIns
    split
    · exact List.pairwise_cons.2 ⟨fun q hq => (hx q hq).symm, h⟩
    · refine List.pairwise_cons.2 ⟨fun q hq => ?_, Apt.ins h2.2 fun q hq => hx q (List.mem_cons_of_mem _ hq)⟩
      rcases asIns_mem.1 hq with rfl | hq
      · exact hx y List.mem_cons_self
      · exact h2.1 q hq
theorem Apt.put {l : List (Nm × α)} (h : Apt l) (n : Nm) (a : α) : Apt (asPut n a l) := (h.del n).ins fun q hq => (asDel_mem.1 hq).2
theorem Apt.del_len {n : Nm} : ∀ {l : List (Nm × α)}, Apt l → (∃ q ∈ l, q.1 = n) → (asDel n l).length + 1 = l.length
  | [], _, h => by obtain ⟨q, hq, _⟩ := h; cases hq
  | y :: r, h, hq => by
    have h2 := List.pairwise_cons.1 h
    by_cases hy : y.1 = n
    · have : asDel n r = r := asDel_none (asGet_none fun q hq2 e => h2.1 q hq2 (by rw [hy, e]))
      unfold asDel at this ⊢
      rw [List.filter_cons_of_neg (by simp [hy]), this]
      rfl
    · obtain ⟨q, hq, hn⟩ := hq
      rcases List.mem_cons.1 hq with rfl | hq
      · exact absurd hn hy
      · have := Apt.del_len h2.2 ⟨q, hq, hn⟩
        unfold asDel at this ⊢
        rw [List.filter_cons_of_pos (by simpa using hy)]
        simp only [List.length_cons]
        omega
end
def calm (pw : PWD) : Prop := pw.off = false ∧ pw.armed = false
theorem calm_cut {pw : PWD} (h : calm pw) : pw.cut = (false, 0, pw) := by
  unfold PWD.cut
  rw [if_pos h.2]
theorem app_calm {pw : PWD} {room : Int} {fs : List (Nm × FD)} {c : List UInt8} (h : calm pw) (p : List UInt8) (hc : ((asGet newN fs).getD ⟨[], 0⟩) = ⟨c, 0⟩) (hf : (p.length : Int) ≤ room - sizes fs) :
    (SAct.app p).run ⟨pw, room, fs⟩ = (0, ⟨pw, room, asPut newN ⟨c ++ p, 0⟩ fs⟩) := by
  show DkD.append ⟨pw, room, fs⟩ newN [p] = _
  unfold DkD.append
  rw [if_neg (by rw [h.1]; simp), if_neg (by decide), if_neg (by unfold fits fits DkD.free; simpa using hf)]
  simp only [calm_cut h, hc]
  simp
theorem runS_cons (a : SAct) (r : List SAct) (d : DkD) : runS (a :: r) d = if (a.run d).1 = 0 then runS r (a.run d).2 else a.run d := rfl
theorem sizes_one (c : List UInt8) (fs : List (Nm × FD)) : sizes (asPut newN ⟨c, 0⟩ fs) = c.length + sizes (asDel newN fs) := sizes_put _ _ _
theorem run_apps {pw : PWD} {room : Int} {fs : List (Nm × FD)} (h : calm pw) (rest : List SAct) : ∀ (rows : List (List UInt8)) (c : List UInt8), ((c.length + rows.flatten.length : Nat) : Int) + sizes (asDel newN fs) ≤ room →
    runS (rows.map .app ++ rest) ⟨pw, room, asPut newN ⟨c, 0⟩ fs⟩ = runS rest ⟨pw, room, asPut newN ⟨c ++ rows.flatten, 0⟩ fs⟩
  | [], c, _ => by simp
  | p :: r, c, hs => by
    have hs' : ((c.length + (p.length + r.flatten.length) : Nat) : Int) + sizes (asDel newN fs) ≤ room := by simpa using hs
    have h1 := app_calm (room := room) (fs := asPut newN ⟨c, 0⟩ fs) (c := c) h p (by rw [asGet_put]; rfl) (by rw [sizes_one]; omega)
    rw [List.map_cons, List.cons_append]
    rw [runS_cons, h1, if_pos rfl, asPut_put, run_apps h rest r (c ++ p) (by rw [List.length_append]; omega)]
    simp
theorem run_acts {pw : PWD} {room : Int} {fs : List (Nm × FD)} {i : Int} (h : calm pw) (hi : 0 ≤ i ∧ i ≤ 1099511627776) (hn : ∀ q ∈ fs, q.1 ≠ newN) (p : List UInt8) (rows : List (List UInt8)) (hs : (((p :: rows).flatten.length : Nat) : Int) + sizes fs ≤ room) :
    runS ((p :: rows).map .app ++ [.sync, .ren i]) ⟨pw, room, fs⟩ = (0, ⟨pw, room, asPut (sName i) ⟨(p :: rows).flatten, (p :: rows).flatten.length⟩ fs⟩) := by
  have hg := asGet_none hn
  have hd := asDel_none hg
  have hfl : (p :: rows).flatten = p ++ rows.flatten := by simp
  rw [hfl] at hs ⊢
  rw [List.length_append] at hs
  have h1 := app_calm (room := room) (fs := fs) (c := []) h p (by rw [hg]; rfl) (by omega)
  rw [List.map_cons, List.cons_append]
  rw [runS_cons, h1, if_pos rfl, List.nil_append, run_apps h _ rows p (by rw [hd]; omega)]
  obtain ⟨F, hF⟩ : ∃ F, F = p ++ rows.flatten := ⟨_, rfl⟩
  rw [← hF]
  have h2 : SAct.sync.run ⟨pw, room, asPut newN ⟨F, 0⟩ fs⟩ = (0, ⟨pw, room, asPut newN ⟨F, F.length⟩ fs⟩) := by
    show DkD.sync _ newN = _
    unfold DkD.sync
    rw [if_neg (by rw [h.1]; simp)]
    simp only [asGet_put, calm_cut h, asPut_put]
    rfl
  have hl := sName_len i (by omega)
  have h3 : (SAct.ren i).run ⟨pw, room, asPut newN ⟨F, F.length⟩ fs⟩ = (0, ⟨pw, room, asPut (sName i) ⟨F, F.length⟩ fs⟩) := by
    show DkD.rename _ newN (sName i) = _
    unfold DkD.rename
    rw [if_neg (by rw [h.1]; simp)]
    simp only [asGet_put]
    rw [if_neg (by
      rintro (h | h | h)
      · cases h
      · omega
      · exact sName_new i hi.1 h.symm)]
    unfold DkD.whole
    simp only [calm_cut h]
    have : asDel newN (asPut newN ⟨F, F.length⟩ fs) = fs := by
      unfold asPut
      rw [asDel_ins, asDel_del, hd]
    rw [this]
    rfl
  rw [runS_cons, h2, if_pos rfl, runS_cons, h3, if_pos rfl]
  rfl
end Go.Proofs.YteehkcpokgeipaaGreatDoor

/- keep.Save on an unarmed disk with room: what is left, in plain words (pavanelaw23.KeepTwo). No condition. -/
set_option linter.unusedVariables false
namespace Go.Proofs.YteehkcpokgeipaaGreatDoor

def NmS (fs : List (Nm × FD)) : Prop := ∀ q ∈ fs, ∃ n : Int, (0 ≤ n ∧ n ≤ 1099511627776) ∧ q.1 = sName n
structure TwoD (d : DkD) : Prop where
  pw : calm d.pw
  room : d.room = 16777216
  len : d.fs.length ≤ 2
  nm : NmS d.fs
  sz : ∀ q ∈ d.fs, q.2.b.length ≤ 100000
  apt : Apt d.fs
theorem sizes_each : ∀ {l : List (Nm × FD)}, (∀ q ∈ l, q.2.b.length ≤ 100000) → sizes l ≤ 100000 * (l.length : Int)
  | [], _ => by simp [sizes]
  | x :: r, h => by
    have h1 := h x List.mem_cons_self
    have h2 := sizes_each (l := r) fun q hq => h q (List.mem_cons_of_mem _ hq)
    simp only [sizes, List.length_cons]
    omega
theorem idxU_all : ∀ {l : List (Nm × FD)}, NmS l → (idxU (l.map (·.1))).length = l.length ∧ ∀ n ∈ idxU (l.map (·.1)), ∃ q ∈ l, q.1 = sName n
  | [], _ => ⟨rfl, fun n hn => by cases hn⟩
  | x :: r, h => by
    obtain ⟨n, hn, hx⟩ := h x List.mem_cons_self
    obtain ⟨h1, h2⟩ := idxU_all (l := r) fun q hq => h q (List.mem_cons_of_mem _ hq)
    have e : idxU ((x :: r).map (·.1)) = n :: idxU (r.map (·.1)) := by
      unfold idxU
      rw [List.map_cons, List.filterMap_cons, hx, idxOf_sName n hn.1 hn.2]
    rw [e]
    refine ⟨by simp [h1], fun k hk => ?_⟩
    rcases List.mem_cons.1 hk with rfl | hk
    · exact ⟨x, List.mem_cons_self, hx⟩
    · obtain ⟨q, hq, e2⟩ := h2 k hk
      exact ⟨q, List.mem_cons_of_mem _ hq, e2⟩
theorem remove_calm {pw : PWD} {room : Int} {fs : List (Nm × FD)} {n : Nm} (h : calm pw) (hn : ∃ q ∈ fs, q.1 = n) : DkD.remove ⟨pw, room, fs⟩ n = (0, ⟨pw, room, asDel n fs⟩) := by
  obtain ⟨q, hq, rfl⟩ := hn
  obtain ⟨f, hf⟩ := asGet_ne hq
  unfold DkD.remove
  rw [if_neg (by rw [h.1]; simp)]
  simp only [hf]
  unfold DkD.whole
  simp only [calm_cut h]
  rfl
theorem tail_two {pw : PWD} {fs : List (Nm × FD)} (h : calm pw) (hl : fs.length ≤ 3) (h1 : 1 ≤ fs.length) (hn : NmS fs) (hs : ∀ q ∈ fs, q.2.b.length ≤ 100000) (ha : Apt fs) :
    (tailS ⟨pw, 16777216, fs⟩).1 = 0 ∧ TwoD (tailS ⟨pw, 16777216, fs⟩).2 ∧ 1 ≤ (tailS ⟨pw, 16777216, fs⟩).2.fs.length := by
  obtain ⟨hu, hm⟩ := idxU_all hn
  have hil : (idxL (fs.map (·.1))).length = fs.length := by unfold idxL; rw [List.length_mergeSort, hu]
  have him : ∀ n ∈ idxL (fs.map (·.1)), ∃ q ∈ fs, q.1 = sName n := fun n h2 => hm n (by unfold idxL at h2; rw [List.mem_mergeSort] at h2; exact h2)
  by_cases h2 : fs.length ≤ 2
  · have e : tailS ⟨pw, 16777216, fs⟩ = (0, ⟨pw, 16777216, fs⟩) := by
      unfold tailS
      rw [hil, show fs.length - 2 = 0 by omega, List.take_zero]
      rfl
    rw [e]
    exact ⟨rfl, ⟨h, rfl, h2, hn, hs, ha⟩, h1⟩
  · obtain ⟨z, r, hz⟩ : ∃ z r, idxL (fs.map (·.1)) = z :: r := by
      cases e : idxL (fs.map (·.1)) with
      | nil => rw [e] at hil; simp at hil; omega
      | cons z r => exact ⟨z, r, rfl⟩
    have hq := him z (by rw [hz]; simp)
    have e : tailS ⟨pw, 16777216, fs⟩ = (0, ⟨pw, 16777216, asDel (sName z) fs⟩) := by
      unfold tailS
      rw [hil, show fs.length - 2 = 1 by omega]
      show rmS ((idxL (fs.map (·.1))).take 1) _ = _
      rw [hz, List.take_succ_cons, List.take_zero]
      unfold rmS
      rw [remove_calm h hq, if_pos rfl]
      rfl
    have hdl := ha.del_len hq
    rw [e]
    exact ⟨rfl, ⟨h, rfl, by show (asDel (sName z) fs).length ≤ 2; omega, fun q h3 => hn q (asDel_mem.1 h3).1, fun q h3 => hs q (asDel_mem.1 h3).1, ha.del _⟩, by show 1 ≤ (asDel (sName z) fs).length; omega⟩
theorem sumL_flat (ls : List (List UInt8)) : sumL ls = (ls.flatten.length : Int) := by
  have h : ∀ (l : List (List UInt8)) (a : Int), l.foldl (fun s p => s + (p.length : Int)) a = a + (l.flatten.length : Int) := by
    intro l
    induction l with
    | nil => intro a; simp
    | cons x r ih =>
      intro a
      rw [List.foldl_cons, ih]
      simp
      omega
  unfold sumL
  rw [h]
  omega
/-- A Save on such a disk: it is done, and one or two files are left; or the snapshot may not be, and nothing has turned. -/
theorem save_two {d : DkD} (hd : TwoD d) {i E : Int} {rows : List (List UInt8)} (hE : E = 0 → (0 ≤ i ∧ i ≤ 1099511627776) ∧ rows ≠ [] ∧ rows.flatten.length ≤ 100000) (hE2 : E = 0 ∨ E = 1) :
    ((saveD d i E rows).1 = 0 ∧ TwoD (saveD d i E rows).2 ∧ 1 ≤ (saveD d i E rows).2.fs.length) ∨ ((saveD d i E rows).1 = 1 ∧ (saveD d i E rows).2 = d) := by
  obtain ⟨pw, room, fs⟩ := d
  obtain ⟨h, hr, hl, hn, hs, ha⟩ := hd
  simp only at h hr hl hn hs ha
  subst hr
  rcases hE2 with rfl | rfl
  · left
    obtain ⟨hi, hne, hfl⟩ := hE rfl
    obtain ⟨p, r, rfl⟩ : ∃ p r, rows = p :: r := by
      cases rows with
      | nil => exact absurd rfl hne
      | cons p r => exact ⟨p, r, rfl⟩
    have hnn : ∀ q ∈ fs, q.1 ≠ newN := fun q hq e => by
      obtain ⟨n, hn1, hn2⟩ := hn q hq
      exact sName_new n hn1.1 (hn2.symm.trans e)
    have hg := asGet_none hnn
    have hsz := sizes_each hs
    have hrd : DkD.read ⟨pw, 16777216, fs⟩ newN = ([], 51) := by
      unfold DkD.read
      rw [if_neg (by rw [h.1]; simp)]
      simp only [hg]
    have hacts : actsL ⟨pw, 16777216, fs⟩ i (p :: r) = (p :: r).map .app ++ [.sync, .ren i] := by
      unfold actsL
      rw [hrd]
      rfl
    have hrun := run_acts (room := 16777216) h hi hnn p r (by omega)
    obtain ⟨F, hF⟩ : ∃ F, F = (p :: r).flatten := ⟨_, rfl⟩
    rw [← hF] at hrun hfl
    have e : saveD ⟨pw, 16777216, fs⟩ i 0 (p :: r) = tailS ⟨pw, 16777216, asPut (sName i) ⟨F, F.length⟩ fs⟩ := by
      unfold saveD
      rw [if_neg (by rw [h.1]; simp), if_neg (by simp), if_neg (by rw [hrd, sumL_flat, ← hF]; unfold DkD.free; simp; omega), hacts, hrun, if_pos rfl]
    rw [e]
    have hlen := len_put (sName i) (⟨F, F.length⟩ : FD) fs
    have hpos : 1 ≤ (asPut (sName i) (⟨F, F.length⟩ : FD) fs).length := by unfold asPut; rw [asIns_length]; omega
    refine tail_two h (by omega) hpos (fun q hq => ?_) (fun q hq => ?_) (ha.put _ _)
    · rcases asPut_mem.1 hq with rfl | hq
      · exact ⟨i, hi, rfl⟩
      · exact hn q hq.1
    · rcases asPut_mem.1 hq with rfl | hq
      · exact hfl
      · exact hs q hq.1
  · right
    have e : saveD ⟨pw, 16777216, fs⟩ i 1 rows = (1, ⟨pw, 16777216, fs⟩) := by
      unfold saveD
      rw [if_neg (by rw [h.1]; simp), if_pos (by simp)]
    rw [e]
    exact ⟨rfl, rfl⟩
end Go.Proofs.YteehkcpokgeipaaGreatDoor

/- A small snapshot's file is small. No condition. -/
set_option linter.unusedVariables false
namespace Go.Proofs.YteehkcpokgeipaaGreatDoor
open Oct

theorem closeS_len2 {q : List UInt8} (h : q.length ≤ 400) : (closeS q).length ≤ 414 := by
  unfold closeS
  split
  · simp
  · have := enc_len q.length (by omega)
    unfold piece head
    simp [Crc.four]
    omega
theorem flat_le2 {K : Nat} : ∀ {ls : List (List UInt8)}, (∀ r ∈ ls, r.length ≤ K) → ls.flatten.length ≤ K * ls.length
  | [], _ => by simp
  | x :: r, h => by
    have h1 := h x List.mem_cons_self
    have h2 := flat_le2 (ls := r) fun q hq => h q (List.mem_cons_of_mem _ hq)
    simp only [List.flatten_cons, List.length_append, List.length_cons, Nat.mul_add, Nat.mul_one]
    omega
theorem file_small {l : List UInt8} (h : l.length ≤ 67000) : fileL l ≠ [] ∧ (fileL l).flatten.length ≤ 100000 := by
  refine ⟨by unfold fileL; simp, ?_⟩
  have hr : ∀ r ∈ fileL l, r.length ≤ 414 := fun r hr => by
    unfold fileL at hr
    rcases List.mem_append.1 hr with hr | hr
    · obtain ⟨q, hq, rfl⟩ := List.mem_map.1 hr
      refine closeS_len2 ?_
      unfold chunksL at hq
      obtain ⟨k, _, rfl⟩ := List.mem_map.1 hq
      exact ckL_le
    · rw [List.mem_singleton.1 hr]
      refine closeS_len2 ?_
      have h1 := enc_len (chunksL l).length (by rw [chunksL_length]; omega)
      have h2 := enc_len (Crc.sum l) (by have := Crc.sum_lt l; omega)
      rw [List.length_append]
      omega
  have h1 := flat_le2 hr
  rw [fileL_len] at h1
  omega
theorem snap_small {i t : Int} {z : List Int} {l : List UInt8} (hz : ∀ n ∈ z, -9223372036854775808 ≤ n ∧ n ≤ 9223372036854775807) (hl : l.length ≤ 65536) : (snapS i t z l).length ≤ 67000 := by
  unfold snapS
  split
  · rename_i hm
    obtain ⟨h1, h2, h3, h4, h5⟩ := may_len hm
    have e1 := enc_len (fold1 i) (by have := fold1_lt i (by omega); omega)
    have e2 := enc_len (fold1 t) (by have := fold1_lt t (by omega); omega)
    have e3 := encZ_len z hz h1
    unfold snapW
    rw [List.length_append, List.length_append, List.length_append]
    omega
  · simp
end Go.Proofs.YteehkcpokgeipaaGreatDoor
