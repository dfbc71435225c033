/- How rows stand in bytes, and which one bytes begin with: the walk of the statement. No condition. -/
import Derived.Test.YtelplpajpfkfiaaTot
import Derived.Test.YtelplpajpfkfiaaOwnInts
set_option linter.unusedVariables false
namespace Go.Proofs.Ytelplpajpfkfiaa
open Go.RowKit Oct

theorem encZ_2 : encZ [1, -1] = [2, 2, 1] := by
  have h2 : enc 2 = [2] := by
    show digs 0 ++ [low7 2] = _
    rw [digs_zero]
    rfl
  have h1 : enc 1 = [1] := by
    show digs 0 ++ [low7 1] = _
    rw [digs_zero]
    rfl
  show enc 2 ++ (enc (fold1 1) ++ (enc (fold1 (-1)) ++ [])) = _
  rw [show fold1 1 = 2 from rfl, show fold1 (-1) = 1 from rfl, h2, h1]
  rfl
theorem errZ_2 : errZ [1, -1] = 0 := rfl
theorem str_2 : ((str (encZ [1, -1])).toList == [2, 2, 1]) = true := by
  rw [str_toList, encZ_2]
  rfl
theorem ints_one (z : List Int) : ∀ u ∈ z.map (Value.int .i64), u.oneCell' = true := by
  intro u hu
  obtain ⟨_, _, rfl⟩ := List.mem_map.1 hu
  rfl
/-- '[]T{}'. -/
theorem own_empty (w : World) (base : Nat) (e : TypeId) (hb : base ≤ w.heap.size) : Own (w.alloc (.cells #[] e)) base e (.slice (some ⟨w.heap.size, 0, none⟩) 0 0) [] := World.ownsRow_made w #[] 0 hb (by simp [maxLen]) (by simp)
theorem is_shape {w : World} {base : Nat} {v : Value} {z : List Int} (h : Is w base v z) : ∃ A c, v = .slice A z.length c ∧ z.length ≤ c ∧ c ≤ 9223372036854775807 ∧ Rd w w.heap.size A (z.map (Value.int .i64)) := by
  obtain ⟨A, c, hv, hc, hm, hr⟩ := Own.shape h
  rw [List.length_map] at hv hc
  exact ⟨A, c, hv, hc, by unfold maxLen at hm; omega, hr⟩

set_option maxHeartbeats 2000000 in
set_option maxRecDepth 100000 in
theorem octetRows_walk (w : World) (Az : Option Addr) (z : List Int) (cz : Nat) (hz : InInts w Az z cz) (A : Option Addr) (l : List UInt8) (c : Nat) (hin : In8 w A l c) :
    Calls Try.prog 8 #[.slice Az z.length cz, .slice A l.length c] w fun e w' => e = .returned (.bool true) ∧ Below w.heap.size w w' := by
  have hll := hin.le
  have hcap := hin.cap
  have hzl := hz.le
  have hzc := hz.cap
  have HW := Lib.hid hz.wf
  go_enter Try.func8, Try.ntmps8
  go_wp2_with fail
  refine (lent_any A l c w hin.rd (by omega)).mono ?_
  rintro e w1 ⟨rfl, hlent, hb1⟩
  have hsz1 := hlent.lt
  have hbs1 := hb1.size
  go_wp2_with (at_builtin; refine wpList_append_any rfl (.tmp 24) (.tmp 25) 41 rfl w1.heap.size 3 (.int .i64 0) 8 Try.underlying41 info_int rfl _ [] rfl (own_empty w1 _ _ (Nat.le_refl _)) w.heap.size Az z.length cz _ rfl (by rw [List.length_map]) ((hz.rd.below hb1).alloc hbs1 _) (ints_one z) (by unfold maxLen; simp; omega) (by simp; omega) (by simp) ?_)
  intro vm w2 hom hg2 hf2
  have hb2 : Below w.heap.size w w2 := (hb1.alloc hbs1 _).grown hg2 (by simp; omega) (fun k hk => by have := (((own_empty w1 w1.heap.size 3 (Nat.le_refl _)).lt k hk).1); omega)
  have hlent2 : LentAt w2 w.heap.size l := Blk.grown (Blk.alloc hlent _) hg2 (by intro h; have := (((own_empty w1 w1.heap.size 3 (Nat.le_refl _)).lt _ h.symm).1); omega)
  obtain ⟨Am, cm, rfl, hcm, hcmx, hrm⟩ := is_shape hom
  have hsz2 := hb2.size
  have hsz12 : w1.heap.size + 1 ≤ w2.heap.size := by have := hg2.size; simpa using this
  have HM := Lib.hid hom.lt
  clear hlent hb1 hg2 hf2
  go_wp2_with fail
  refine (ints_tot Am z _ cm rfl _ hrm HW.out (by omega)).mono ?_
  rintro e w3 ⟨va, rfl, hova, hb3⟩
  have hlent3 := hlent2.below hb3 (Blk.lt hlent2)
  have hom3 := hom.below hb3 (Nat.le_refl _)
  have hb13 : Below w.heap.size w w3 := hb2.trans (hb3.mono hsz2)
  have hsz3 := hb13.size
  have hsz23 := hb3.size
  have HA := Lib.hid hova.lt
  clear hlent2 hom hb2 hb3 hrm
  go_wp2_with fail
  refine (takeInts_any _ l _ w3 (hlent3.rd.more (by have := Blk.lt hlent3; omega)) (by omega)).mono ?_
  rintro e w4 ⟨vv, rfl, hovv, hb4⟩
  have hlent4 := hlent3.below hb4 (Blk.lt hlent3)
  have hom4 := hom3.below hb4 (Nat.le_refl _)
  have hova4 := hova.below hb4 (Nat.le_refl _)
  have hb14 : Below w.heap.size w w4 := hb13.trans (hb4.mono hsz3)
  have hsz4 := hb14.size
  have hsz34 := hb4.size
  clear hlent3 hom3 hova hb13 hb4
  go_wp2_with fail
  refine (rints_tot Az z _ cz rfl _ ((hz.rd.below hb14).more hsz4) HW.out (by omega)).mono ?_
  rintro e w5 ⟨vw, rfl, hovw, hb5⟩
  have hlent5 := hlent4.below hb5 (Blk.lt hlent4)
  have hom5 := hom4.below hb5 (Nat.le_refl _)
  have hova5 := hova4.below hb5 (Nat.le_refl _)
  have hovv5 := hovv.below hb5 (Nat.le_refl _)
  have hb15 : Below w.heap.size w w5 := hb14.trans (hb5.mono hsz4)
  have hsz5 := hb15.size
  clear hlent4 hom4 hova4 hovv hb14 hb5
  go_wp2_with fail
  refine (rtakeInts_any A l c _ ((hin.rd.below hb15).more hsz5) hll (by omega)).mono ?_
  rintro e w6 ⟨vu, rfl, hovu, hb6⟩
  have hlent6 := hlent5.below hb6 (Blk.lt hlent5)
  have hom6 := hom5.below hb6 (Nat.le_refl _)
  have hova6 := hova5.below hb6 (Nat.le_refl _)
  have hovv6 := hovv5.below hb6 (Nat.le_refl _)
  have hovw6 := hovw.below hb6 (Nat.le_refl _)
  have hb16 : Below w.heap.size w w6 := hb15.trans (hb6.mono hsz5)
  have hsz6 := hb16.size
  clear hlent5 hom5 hova5 hovv5 hovw hb15 hb6
  go_wp2_with fail
  refine (kept_any w.heap.size A l c w.heap.size _ hlent6 (hin.rd.below hb16) (by omega)).mono ?_
  rintro e w7 ⟨rfl, rfl⟩
  obtain ⟨Am', cm', hm1, hcm', hcmx', hrm6⟩ := is_shape hom6
  injection hm1 with hm1 _ hm2
  subst hm1; subst hm2
  obtain ⟨Av, cv, rfl, hcv, hcvx, hrv6⟩ := is_shape hovv6
  obtain ⟨Au, cu, rfl, hcu, hcux, hru6⟩ := is_shape hovu
  have hzlen : (takeZ l).1.length ≤ 4096 := by
    unfold takeZ
    split
    · have := tz_len l (lenOf 4096 l).1 (cnt maxI l).2.1 []
      have := lenOf_le 4096 l
      simp at *
      omega
    · simp
  go_wp2_with fail
  refine (same_any _ _ z z _ _ w6.heap.size _ hrm6 (((hz.rd.below hb16)).more hsz6) (by omega) (by omega)).mono ?_
  rintro e w7 ⟨rfl, hb7⟩
  rw [decide_eq_true rfl]
  have hrv7 := hrv6.below hb7
  have hru7 := hru6.below hb7
  go_wp2_with fail
  refine (same_any _ _ (takeZ l).1 (takeZ l).1 _ _ w6.heap.size _ hrv7 hru7 (by omega) (by omega)).mono ?_
  rintro e w8 ⟨rfl, hb8⟩
  rw [decide_eq_true rfl]
  have hb68 := hb7.trans (hb8.mono hb7.size)
  have hlent8 := hlent6.below hb68 (Blk.lt hlent6)
  have hom8 := hom6.below hb68 (Nat.le_refl _)
  have hova8 := hova6.below hb68 (Nat.le_refl _)
  have hovv8 := hovv6.below hb68 (Nat.le_refl _)
  have hovw8 := hovw6.below hb68 (Nat.le_refl _)
  have hb18 : Below w.heap.size w w8 := hb16.trans (hb68.mono hsz6)
  have hsz8 := hb18.size
  clear hlent6 hom6 hova6 hovv6 hovw6 hovu hb16 hb7 hb8 hb68 hrm6 hrv6 hru6 hrv7 hru7
  obtain ⟨A1, c1, rfl, hc1, _, hr1⟩ := bs_shape hova8
  obtain ⟨A2, c2, rfl, hc2, _, hr2⟩ := bs_shape hovw8
  have k1 := str_of c1 hr1
  have k2 := str_of c2 hr2
  go_wp2_with fail
  refine (owned_two_far _ _ w.heap.size w8 (RowOk.of_own (hova8.mono (by omega))) (RowOk.of_lent hlent8 (Nat.le_refl _) (by omega)) (apart_lent hova8 (by omega)) hsz8).mono ?_
  rintro e w9 ⟨rfl, hb89, hfar⟩
  have hb19 := hb18.trans hb89
  have keep : ∀ g, w.heap.size < g → g < w8.heap.size → (∀ k, Value.ownBlock (.slice A1 (encZ z).length c1) = some k → k ≠ g) → w9.heap[g]? = w8.heap[g]? := fun g h1 h2 h3 =>
    hfar g h2 (fun h => h3 g h rfl) (by simp [Value.ownBlock]; omega)
  have hKEEP := Lib.hid keep
  clear keep hfar k1 k2 hr1 hr2 hovw8 hlent8
  obtain ⟨Bv, bcv, curv, hv1, hbcv, hiv, hbv⟩ := IBlk.of_own hovv8
  injection hv1 with hv1 _ hv2
  subst hv1; subst hv2
  obtain ⟨Bm, bcm, curm, hm1, hbcm, him, hbm⟩ := IBlk.of_own hom8
  injection hm1 with hm1 _ hm2
  subst hm1; subst hm2
  have hlv := hovv8.lt
  have dva : ∀ g, Av = some ⟨g, 0, none⟩ → w3.heap.size ≤ g ∧ g < w8.heap.size := fun g h => hlv g (by rw [h]; rfl)
  have dm : ∀ g, Am = some ⟨g, 0, none⟩ → w1.heap.size ≤ g ∧ g < w2.heap.size ∧ g < w8.heap.size := fun g h => ⟨(HM.out g (by rw [h]; rfl)).1, (HM.out g (by rw [h]; rfl)).2, (hom8.lt g (by rw [h]; rfl)).2⟩
  have hiv9 : IBlk w9 Av cv curv := hiv.keep fun g h => hKEEP.out g (by have := dva g h; omega) (by have := dva g h; omega) (fun k hk e => by have := dva g h; have := HA.out k hk; omega)
  have him9 : IBlk w9 Am cm curm := him.keep fun g h => hKEEP.out g (by have := dm g h; omega) (by have := dm g h; omega) (fun k hk e => by have := dm g h; have := HA.out k hk; omega)
  have hb8v : ∀ g, Av = some ⟨g, 0, none⟩ → w.heap.size ≤ g := fun g h => by have := dva g h; omega
  have hb8m : ∀ g, Am = some ⟨g, 0, none⟩ → w.heap.size ≤ g := fun g h => by have := dm g h; omega
  have hdd : ∀ g, Av = some ⟨g, 0, none⟩ → Am ≠ some ⟨g, 0, none⟩ := fun g h h' => by have := dva g h; have := dm g h'; omega
  have HIV := Lib.hid (ownInts_at Av Am (takeZ l).1.length cv z.length cm curv curm w.heap.size w9 hiv9 him9 hbcv hbcm hb8v hb8m hdd)
  clear hKEEP hiv him hbv hbm hlv dva dm hiv9 him9 hb8v hb8m hdd hovv8 hom8 hova8 hb18 hb89
  go_wp2_with fail
  refine HIV.out.mono ?_
  rintro e w10 ⟨rfl, hb910⟩
  have hb110 := hb19.trans hb910
  have hsz10 := hb110.size
  clear HIV hb19 hb910
  go_wp2_with fail
  refine (ints_tot _ [1, -1] _ _ rfl _ ((rd_two w10 3 (.int .i64 1) (.int .i64 (-1))).more (by simp)) (by decide) (by simp)).mono ?_
  rintro e w11 ⟨vf, rfl, hovf, hb11⟩
  rw [errZ_2]
  obtain ⟨A3, c3, rfl, hc3, _, hr3⟩ := bs_shape hovf
  have k3 := str_of c3 hr3
  have hb111 : Below w.heap.size w w11 := (hb110.alloc hsz10 _).trans (hb11.mono (by simp; omega))
  have h300 := str_2
  clear hb110 hb11 hovf hr3
  go_wp2
  go_ret
  exact ⟨rfl, hb111⟩
end Go.Proofs.Ytelplpajpfkfiaa
