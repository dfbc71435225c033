/- pavaneref23.list: the numbers of a disk's snapshots, rising. Condition: the disk is a call's own. -/
import Derived.Test.YteehkcpokgeipaaGreatDoorKeepNum
import Derived.Test.YteehkcpokgeipaaGreatDoorRDiskPut
import Derived.Deep.DeepMust
set_option linter.unusedVariables false
set_option linter.unusedSimpArgs false
namespace Go.Proofs.YteehkcpokgeipaaGreatDoor
open Go.RowKit Go.Maps Go.Sort Oct
theorem ins_sorted {zs : List Int} {n : Int} {j : Nat} (hs : zs.Pairwise (· ≤ ·)) (h1 : ∀ x ∈ zs.take j, x < n) (h2 : ∀ x, zs[j]? = some x → n ≤ x) : (zs.take j ++ n :: zs.drop j).Pairwise (· ≤ ·) := by
 rw [List.pairwise_append]
 refine ⟨hs.sublist (List.take_sublist _ _), ?_, ?_⟩
 ·refine List.pairwise_cons.2 ⟨fun y hy => ?_, hs.sublist (List.drop_sublist _ _)⟩
  rcases e : zs.drop j with _ | ⟨a, r⟩
  ·rw [e] at hy; cases hy
  ·have ha : zs[j]? = some a := by
    have := congrArg (fun l => l[0]?) e
    simpa using this
   have hn := h2 a ha
   have hd := hs.sublist (List.drop_sublist j zs)
   rw [e] at hd hy
   rcases List.mem_cons.1 hy with rfl | hy
   ·exact hn
   ·exact Int.le_trans hn ((List.pairwise_cons.1 hd).1 y hy)
 ·intro x hx y hy
  have hxn := h1 x hx
  rcases List.mem_cons.1 hy with rfl | hy
  ·omega
  ·have h3 := hs
   rw [← List.take_append_drop j zs, List.pairwise_append] at h3
   exact h3.2.2 x hx y hy
theorem ins_perm (zs : List Int) (n : Int) (j : Nat) : (zs.take j ++ n :: zs.drop j).Perm (zs ++ [n]) := by
 have h1 : (zs.take j ++ n :: zs.drop j).Perm (n :: (zs.take j ++ zs.drop j)) := List.perm_middle
 rw [List.take_append_drop] at h1
 exact h1.trans (List.perm_append_singleton n zs).symm
theorem idx_of_sorted {zs : List Int} {ns : List Nm} (hs : zs.Pairwise (· ≤ ·)) (hp : zs.Perm (idxU ns)) : zs = idxL ns := by
 unfold idxL
 have h1 : ((idxU ns).mergeSort fun x y => decide (x ≤ y)).Pairwise (· ≤ ·) := by
  have := List.pairwise_mergeSort (le := fun x y : Int => decide (x ≤ y)) (fun a b c h1 h2 => by simp only [decide_eq_true_eq] at *; omega) (fun a b => by simp; omega) (idxU ns)
  exact this.imp (fun h => by simpa using h)
 refine List.Perm.eq_of_pairwise (le := (· ≤ ·)) (fun a b _ _ h1 h2 => Int.le_antisymm h1 h2) hs h1 (hp.trans (List.mergeSort_perm _ _).symm)
theorem idxU_snoc (ns : List Nm) (n : Nm) : idxU (ns ++ [n]) = idxU ns ++ (idxOf n).toList := by
 unfold idxU
 rw [List.filterMap_append]
 cases h : idxOf n <;> simp [h]
set_option maxHeartbeats 4000000 in
set_option maxRecDepth 100000 in
theorem rlist_any {w : World} {base g : Nat} {p : PWD} {room : Int} {vL : Value} {es : List (Nm × RF)} (h : RDiskAt w base g p room vL es) (hl : es.length ≤ 1099511627776) (hn : ∀ q ∈ es, q.1.length ≤ 1000) :
  Calls Tryz.prog 79 #[.pointer (some ⟨g, 0, none⟩)] w fun e w' => ∃ v, e = .returned v ∧ Own w' w.heap.size 3 v ((idxL (es.map (·.1))).map (Value.int .i64)) ∧ Below w.heap.size w w' := by
 obtain ⟨x, y, hb, _⟩ := h.blk
 have HB0 := Lib.hid hb
 obtain ⟨A, c, hvL, hlc, hcm, hat⟩ := h.shape
 have HAT := Lib.hid hat
 have HN := Lib.hid hn
 have hgl := h.glt
 clear hat hb h hn
 subst hvL
 go_enter Tryz.func79, Tryz.ntmps79
 go_wp2_with fail
 go_loopw [3, 4] (fun o i wr => ∃ (k : Nat) (zs : List Int), k ≤ es.length ∧ i = .int .i64 k ∧ Hid (zs.Pairwise (· ≤ ·)) ∧ Hid (zs.Perm (idxU ((es.map (·.1)).take k))) ∧ zs.length ≤ k ∧ Hid (Own wr w.heap.size 3 o (zs.map (Value.int .i64))) ∧ Hid (Below w.heap.size w wr)) (fun _ i _ => es.length - (intOf i).toNat)
 case atStart => exact ⟨0, [], by omega, rfl, Lib.hid List.Pairwise.nil, Lib.hid (by rw [List.take_zero]; exact List.Perm.refl _), by simp, Lib.hid (Own.nil _ _ _), Lib.hid (Below.refl _ _)⟩
 case round =>
  obtain ⟨k, zs, hk, rfl, HSO, HPE, hzl, HO, HB⟩ := hrel
  have c0 : wr.cell? ⟨g, 0, none⟩ = some (.slice A es.length c) := (show Blk wr g 72 _ from (HB.out.block g hgl).trans HB0.out).cell 0
  have hsB := HB.out.size
  by_cases hlt : k < es.length
  ·obtain ⟨b, rfl, hbl, q0, q1, q2, _⟩ := HAT.out k hlt
   have q0' := HB.out.cell (p := ⟨b, k * 3, none⟩) hbl
   rw [q0] at q0'
   have HNU := Lib.hid (rnumber_any es[k].1 (HN.out _ (List.getElem_mem hlt)) wr)
   have HST : Hid (idxU ((es.map (·.1)).take (k + 1)) = idxU ((es.map (·.1)).take k) ++ (idxOf es[k].1).toList) := Lib.hid (by
    rw [List.take_succ_eq_append_getElem (by simpa using hlt), idxU_snoc, List.getElem_map])
   generalize es[k].1 = nm at q0' HNU HST
   have hkL : (k : Int) < (es.length : Int) := by omega
   clear q0 q1 q2
   go_wp2_with fail
   refine HNU.out.mono ?_
   rintro e w' ⟨v, rfl, rfl, hv⟩
   rcases hv with ⟨hv0, hv1⟩ | ⟨hv0, hv1⟩
   ·have hvn : ¬ v < 0 := by omega
    rw [hv1] at HST
    have HV1 := Lib.hid hv1
    obtain ⟨Ao, co, hov, hoc, hocm, hor⟩ := HO.out.shape
    rw [List.length_map] at hov hoc
    subst hov
    have HOR := Lib.hid hor
    clear hv1 hor
    go_wp2_with fail
    go_loopw [6] (fun a wq => ∃ j : Nat, j ≤ zs.length ∧ a = .int .i64 j ∧ Hid (∀ x ∈ zs.take j, x < v) ∧ Hid (wr = wq)) (fun a _ => zs.length - (intOf a).toNat)
    case atStart => exact ⟨0, by omega, rfl, Lib.hid (by simp), Lib.hid rfl⟩
    case round =>
     obtain ⟨j, hj, rfl, HJ, HW⟩ := hrel
     obtain rfl := HW.out
     have hzlI : (zs.length : Int) ≤ 1099511627776 := by omega
     by_cases hjl : j < zs.length
     ·obtain ⟨ad, rfl, had, hcz⟩ := rd_at HOR.out hjl
      have hjI : (j : Int) < (zs.length : Int) := by omega
      by_cases hz : zs[j] < v
      ·have HJ2 : Hid (∀ x ∈ zs.take (j + 1), x < v) := Lib.hid (fun x hx => by
        rw [List.take_succ_eq_append_getElem hjl] at hx
        rcases List.mem_append.1 hx with hx | hx
        ·exact HJ.out x hx
        ·rw [List.mem_singleton.1 hx]; exact hz)
       generalize zs[j] = zj at hcz hz
       go_wp2_with fail
       go_roundw
       case rel => exact ⟨j + 1, by omega, by go_num, HJ2, Lib.hid trivial⟩
       case measure => simp [intOf]; omega
      ·have H2 : Hid (∀ x, zs[j]? = some x → v ≤ x) := Lib.hid (fun x hx => by
        rw [List.getElem?_eq_getElem hjl] at hx
        injection hx with hx
        omega)
       generalize zs[j] = zj at hcz hz
       have HX := Lib.hid (ins_sorted HSO.out HJ.out H2.out)
       have HP2 : Hid ((zs.take j ++ v :: zs.drop j).Perm (idxU ((es.map (·.1)).take (k + 1)))) := Lib.hid (by rw [HST.out]; exact (ins_perm zs v j).trans (List.Perm.append_right _ HPE.out))
       have hzl2 : (zs.take j ++ v :: zs.drop j).length ≤ k + 1 := by rw [(ins_perm zs v j).length_eq, List.length_append, List.length_singleton]; omega
       have HZL := Lib.hid hzl2
       have hcut := fun W : World => run_cut (P := Tryz.prog) Tryz.underlying26 info_int (some ad) zs.length co 0 j (by omega) (by omega) 0 (j : Int) rfl rfl W
       have hcut2 := fun W : World => run_cut_from (P := Tryz.prog) Tryz.underlying26 info_int (some ad) zs.length co j (by omega) (j : Int) rfl W
       clear hzl2
       go_wp2_with (first | (at_builtin; refine wpList_append_any rfl (.tmp 42) (.tmp 45) 26 rfl wr.heap.size 3 (.int .i64 0) 8 Tryz.underlying26 info_int rfl _ [] rfl (Own.nil _ _ _) wr.heap.size (some ad) j co ((zs.take j).map (Value.int .i64)) rfl (by rw [List.length_map, List.length_take]; omega) (by rw [List.map_take]; exact HOR.out.take j) (by intro u hu; obtain ⟨n, _, rfl⟩ := List.mem_map.1 hu; rfl) (by unfold maxLen; simp; omega) (by simp; omega) (Nat.le_refl _) ?_; intro v1 y1 hv1 hg1 _; have hv1' : Own y1 wr.heap.size 3 v1 ((zs.take j).map (Value.int .i64)) := hv1; have hby1 : Below wr.heap.size wr y1 := (Below.refl _ wr).grown hg1 (Nat.le_refl _) (fun j hj => by cases hj); obtain ⟨A1, c1, e1, _⟩ := hv1'.shape; rw [List.length_map, List.length_take, Nat.min_eq_left hj] at e1; subst e1; have HV1 := Lib.hid hv1'; have HY1 := Lib.hid hby1; have hys1 := hby1.size; clear hv1 hv1' hg1 hby1) | (at_builtin; refine wpList_append_any rfl (.tmp 47) (.tmp 49) 26 rfl wr.heap.size 3 (.int .i64 0) 8 Tryz.underlying26 info_int rfl _ _ rfl (HV1.out.alloc _) (y1.heap.size + 1) (some ⟨y1.heap.size, 0, none⟩) 1 1 [.int .i64 v] rfl rfl (rd_lit y1 3 [.int .i64 v]) (by simp [Value.oneCell']) (by unfold maxLen; simp; omega) (by simp; omega) (by simp; omega) ?_; intro v2 y2 hv2 hg2 _; have hv2' : Own y2 wr.heap.size 3 v2 ((zs.take j ++ [v]).map (Value.int .i64)) := (by rw [List.map_append]; exact hv2); have hby2 : Below wr.heap.size wr y2 := (HY1.out.alloc (by omega) _).grown hg2 (by simp; omega) (fun j hj => (HV1.out.lt j hj).1); obtain ⟨A2, c2, e2, _⟩ := hv2'.shape; rw [List.length_map, List.length_append, List.length_take, List.length_singleton, Nat.min_eq_left hj] at e2; subst e2; have HV2 := Lib.hid hv2'; have HY2 := Lib.hid hby2; have hys2 := hby2.size; clear hv2 hv2' hg2 hby2) | (at_builtin; refine wpList_append_any rfl (.tmp 51) (.tmp 54) 26 rfl wr.heap.size 3 (.int .i64 0) 8 Tryz.underlying26 info_int rfl _ _ rfl HV2.out wr.heap.size (cutA (some ad) j co) (zs.length - j) (co - j) ((zs.drop j).map (Value.int .i64)) rfl (by rw [List.length_map, List.length_drop]) (by rw [List.map_drop]; exact (HOR.out.cutA (by rw [List.length_map]; omega) (by rw [List.length_map]; omega)).below HY2.out) (by intro u hu; obtain ⟨n, _, rfl⟩ := List.mem_map.1 hu; rfl) (by unfold maxLen; simp; omega) (by simp; omega) (by omega) ?_; intro v3 y3 hv3 hg3 _; have hv3' : Own y3 wr.heap.size 3 v3 ((zs.take j ++ v :: zs.drop j).map (Value.int .i64)) := (by rw [show zs.take j ++ v :: zs.drop j = (zs.take j ++ [v]) ++ zs.drop j by simp, List.map_append]; exact hv3); have hby3 : Below wr.heap.size wr y3 := HY2.out.grown hg3 (by omega) (fun j hj => (HV2.out.lt j hj).1); have HV3 := Lib.hid hv3'; have HY3 := Lib.hid hby3; clear hv3 hv3' hg3 hby3))
       go_roundw
       case rel => exact ⟨k + 1, zs.take j ++ v :: zs.drop j, by omega, by go_num, HX, HP2, HZL.out, Lib.hid (HV3.out.mono hsB), Lib.hid (HB.out.trans (HY3.out.mono hsB))⟩
       case measure => simp [intOf]; omega
     ·have H2 : Hid (∀ x, zs[j]? = some x → v ≤ x) := Lib.hid (fun x hx => by
       rw [List.getElem?_eq_none (by omega)] at hx
       cases hx)
      have hjI : ¬ (j : Int) < (zs.length : Int) := by omega
      have HX := Lib.hid (ins_sorted HSO.out HJ.out H2.out)
      have HP2 : Hid ((zs.take j ++ v :: zs.drop j).Perm (idxU ((es.map (·.1)).take (k + 1)))) := Lib.hid (by rw [HST.out]; exact (ins_perm zs v j).trans (List.Perm.append_right _ HPE.out))
      have hzl2 : (zs.take j ++ v :: zs.drop j).length ≤ k + 1 := by rw [(ins_perm zs v j).length_eq, List.length_append, List.length_singleton]; omega
      have HZL := Lib.hid hzl2
      have hcut := fun W : World => run_cut (P := Tryz.prog) Tryz.underlying26 info_int Ao zs.length co 0 j (by omega) (by omega) 0 (j : Int) rfl rfl W
      have hcut2 := fun W : World => run_cut_from (P := Tryz.prog) Tryz.underlying26 info_int Ao zs.length co j (by omega) (j : Int) rfl W
      clear hzl2
      go_wp2_with (first | (at_builtin; refine wpList_append_any rfl (.tmp 42) (.tmp 45) 26 rfl wr.heap.size 3 (.int .i64 0) 8 Tryz.underlying26 info_int rfl _ [] rfl (Own.nil _ _ _) wr.heap.size Ao j co ((zs.take j).map (Value.int .i64)) rfl (by rw [List.length_map, List.length_take]; omega) (by rw [List.map_take]; exact HOR.out.take j) (by intro u hu; obtain ⟨n, _, rfl⟩ := List.mem_map.1 hu; rfl) (by unfold maxLen; simp; omega) (by simp; omega) (Nat.le_refl _) ?_; intro v1 y1 hv1 hg1 _; have hv1' : Own y1 wr.heap.size 3 v1 ((zs.take j).map (Value.int .i64)) := hv1; have hby1 : Below wr.heap.size wr y1 := (Below.refl _ wr).grown hg1 (Nat.le_refl _) (fun j hj => by cases hj); obtain ⟨A1, c1, e1, _⟩ := hv1'.shape; rw [List.length_map, List.length_take, Nat.min_eq_left hj] at e1; subst e1; have HV1 := Lib.hid hv1'; have HY1 := Lib.hid hby1; have hys1 := hby1.size; clear hv1 hv1' hg1 hby1) | (at_builtin; refine wpList_append_any rfl (.tmp 47) (.tmp 49) 26 rfl wr.heap.size 3 (.int .i64 0) 8 Tryz.underlying26 info_int rfl _ _ rfl (HV1.out.alloc _) (y1.heap.size + 1) (some ⟨y1.heap.size, 0, none⟩) 1 1 [.int .i64 v] rfl rfl (rd_lit y1 3 [.int .i64 v]) (by simp [Value.oneCell']) (by unfold maxLen; simp; omega) (by simp; omega) (by simp; omega) ?_; intro v2 y2 hv2 hg2 _; have hv2' : Own y2 wr.heap.size 3 v2 ((zs.take j ++ [v]).map (Value.int .i64)) := (by rw [List.map_append]; exact hv2); have hby2 : Below wr.heap.size wr y2 := (HY1.out.alloc (by omega) _).grown hg2 (by simp; omega) (fun j hj => (HV1.out.lt j hj).1); obtain ⟨A2, c2, e2, _⟩ := hv2'.shape; rw [List.length_map, List.length_append, List.length_take, List.length_singleton, Nat.min_eq_left hj] at e2; subst e2; have HV2 := Lib.hid hv2'; have HY2 := Lib.hid hby2; have hys2 := hby2.size; clear hv2 hv2' hg2 hby2) | (at_builtin; refine wpList_append_any rfl (.tmp 51) (.tmp 54) 26 rfl wr.heap.size 3 (.int .i64 0) 8 Tryz.underlying26 info_int rfl _ _ rfl HV2.out wr.heap.size (cutA Ao j co) (zs.length - j) (co - j) ((zs.drop j).map (Value.int .i64)) rfl (by rw [List.length_map, List.length_drop]) (by rw [List.map_drop]; exact (HOR.out.cutA (by rw [List.length_map]; omega) (by rw [List.length_map]; omega)).below HY2.out) (by intro u hu; obtain ⟨n, _, rfl⟩ := List.mem_map.1 hu; rfl) (by unfold maxLen; simp; omega) (by simp; omega) (by omega) ?_; intro v3 y3 hv3 hg3 _; have hv3' : Own y3 wr.heap.size 3 v3 ((zs.take j ++ v :: zs.drop j).map (Value.int .i64)) := (by rw [show zs.take j ++ v :: zs.drop j = (zs.take j ++ [v]) ++ zs.drop j by simp, List.map_append]; exact hv3); have hby3 : Below wr.heap.size wr y3 := HY2.out.grown hg3 (by omega) (fun j hj => (HV2.out.lt j hj).1); have HV3 := Lib.hid hv3'; have HY3 := Lib.hid hby3; clear hv3 hv3' hg3 hby3))
      go_roundw
      case rel => exact ⟨k + 1, zs.take j ++ v :: zs.drop j, by omega, by go_num, HX, HP2, HZL.out, Lib.hid (HV3.out.mono hsB), Lib.hid (HB.out.trans (HY3.out.mono hsB))⟩
      case measure => simp [intOf]; omega
   ·rw [hv1] at HST
    clear hv1
    go_wp2_with fail
    go_roundw
    case rel => exact ⟨k + 1, zs, by omega, by go_num, HSO, Lib.hid (by rw [HST.out]; simpa using HPE.out), by omega, HO, HB⟩
    case measure => simp [intOf]; omega
  ·obtain ⟨Ao, co, hov, _⟩ := HO.out.shape
   rw [List.length_map] at hov
   subst hov
   have e : (es.map (·.1)).take k = es.map (·.1) := List.take_of_length_le (by simp; omega)
   rw [e] at HPE
   have HR := Lib.hid (idx_of_sorted HSO.out HPE.out)
   clear e
   go_wp2_with fail
   go_ret
   exact ⟨_, rfl, by rw [← HR.out]; exact HO.out, HB.out⟩
end Go.Proofs.YteehkcpokgeipaaGreatDoor
