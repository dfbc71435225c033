/- An instance in bytes (image.Bytes). Condition: the instance can be read, its numbers are 64 bits wide. -/
import Derived.Test.YtaadbklimfngiaaImagePage
set_option linter.unusedVariables false
namespace Go.Proofs.Ytaadbklimfngiaa
open Go.RowKit Oct

theorem enc_len2 (n : Int) (h : wf64 n) : (enc (fold1 n)).length ≤ 10 := enc_len _ (by have := fold1_lt n h; omega)
theorem encs_len10 : ∀ (z : List Int), (∀ n ∈ z, wf64 n) → (encs z).length ≤ 10 * z.length
  | [], _ => by simp [encs]
  | n :: z, h => by
    have h1 := enc_len2 n (h n (List.mem_cons_self ..))
    have h2 := encs_len10 z (fun m hm => h m (List.mem_cons_of_mem _ hm))
    simp only [encs, List.length_append, List.length_cons]
    omega
theorem encZ_small (z : List Int) (hz : ∀ n ∈ z, wf64 n) : (encZ z).length ≤ 1000000 := by
  unfold encZ
  split
  · simp
  · have h1 := encs_len10 z hz
    have h2 := enc_len z.length (by omega)
    simp only [List.length_append]
    omega
theorem PutPg.below {w w' : World} {g : Nat} {v : Value} {p' : Pg} {e : Ending} {B : Nat} (h : PutPg w g v p' e w') (hv : ∀ q, v.ownBlock = some q → g < q) (hB : B ≤ g) (hs : B ≤ w.heap.size) : ∃ v', e = .returned (.tuple #[]) ∧ PgAt w' g p' v' ∧ Below B w w' := by
  obtain ⟨v', h1, h2, h3, h4⟩ := h
  exact ⟨v', h1, h2, h3.belowG hv hB hs⟩
theorem PgAt.lo {w : World} {g : Nat} {p : Pg} {v : Value} (h : PgAt w g p v) : ∀ q, v.ownBlock = some q → g < q := fun q hq => by have := Own.lt h.2 q hq; omega
theorem PgAt.below {w w' : World} {g : Nat} {p : Pg} {v : Value} (h : PgAt w g p v) {B : Nat} (hb : Below B w w') (hB : w.heap.size ≤ B) : PgAt w' g p v := ⟨Blk.below h.1 hb (by have := h.1.lt; omega), Own.below h.2 hb hB⟩
set_option maxHeartbeats 1000000 in
set_option maxRecDepth 100000 in
theorem pnums_any (g : Nat) (p : Pg) (v : Value) (A : Option Addr) (z : List Int) (n c : Nat) (hn : n = z.length) (w : World) (hI : PgAt w g p v) (hr : Rd w w.heap.size A (z.map (Value.int .i64))) (hz : ∀ n ∈ z, wf64 n) (hl : z.length ≤ 1000000)
    (hA : ∀ ad, A = some ad → 0 < z.length → ad.block ≠ g ∧ v.ownBlock ≠ some ad.block) :
    Calls Try.prog 97 #[.pointer (some ⟨g, 0, none⟩), .slice A n c] w fun e w' => ∃ v', e = .returned (.tuple #[]) ∧ PgAt w' g (z.foldl Pg.num p) v' ∧ Below g w w' := by
  subst hn
  have hgl : g < w.heap.size := hI.1.lt
  have HI := Lib.hid hI
  have HR := Lib.hid hr
  have HZ := Lib.hid hz
  have HA := Lib.hid hA
  clear hI hr hz hA
  go_enter Try.func97, Try.ntmps97
  go_wp2_with fail
  go_loopw [8, 5] (fun i _ wr => ∃ (k : Nat) (v' : Value), k ≤ z.length ∧ i = .int .i64 k ∧ Hid (PgAt wr g ((z.take k).foldl Pg.num p) v') ∧ Hid (Rd wr w.heap.size A (z.map (Value.int .i64))) ∧ Hid (Next v v' w.heap.size) ∧ Hid (Below g w wr)) (fun i _ _ => z.length - (intOf i).toNat)
  case atStart => exact ⟨0, v, by omega, rfl, HI, HR, Lib.hid (fun q hq => .inl hq), Lib.hid (Below.refl _ _)⟩
  case round =>
    obtain ⟨k, v', hk, rfl, hI, hR, hN, hB⟩ := hrel
    clear HI
    by_cases hlt : k < z.length
    · have hltI : (k : Int) < z.length := by omega
      obtain ⟨ad, rfl, had, hc⟩ := rd_at hR.out hlt
      obtain ⟨x, hx⟩ : ∃ x, x = z[k] := ⟨_, rfl⟩
      have hxw : wf64 x := by rw [hx]; exact HZ.out _ (List.getElem_mem hlt)
      have HST : Hid ((z.take (k + 1)).foldl Pg.num p = ((z.take k).foldl Pg.num p).num x) := Lib.hid (by rw [List.take_succ_eq_append_getElem hlt, List.foldl_append, hx]; rfl)
      rw [← hx] at hc
      have hgr : g < wr.heap.size := hI.out.1.lt
      have hsr : w.heap.size ≤ wr.heap.size := hB.out.size
      have hint := Lib.hid (int_any x hxw wr)
      have HNE := Lib.hid (HA.out ad rfl (by omega))
      clear hx
      go_wp2_with fail
      refine hint.out.mono ?_
      clear hint
      rintro e w1 ⟨v1, rfl, hv1, hb1⟩
      obtain ⟨A1, c1, rfl, -, -, hr1⟩ := bs_shape hv1
      have hel := enc_len2 x hxw
      have hput := Lib.hid (pput_any g ((z.take k).foldl Pg.num p) v' A1 (enc (fold1 x)) (enc (fold1 x)).length c1 0 rfl w1 (hI.out.below hb1 (Nat.le_refl _)) hr1 (by omega))
      go_wp2_with fail
      refine hput.out.mono ?_
      clear hput
      rintro e w2 ⟨v2, rfl, hp2, hbut, hnx⟩
      have hs1 : wr.heap.size ≤ w1.heap.size := hb1.size
      have HI2 : Hid (PgAt w2 g ((z.take (k + 1)).foldl Pg.num p) v2) := Lib.hid (by rw [HST.out]; exact hp2)
      have HR2 : Hid (Rd w2 w.heap.size (some ad) (z.map (Value.int .i64))) := Lib.hid ((hR.out.below (hb1.mono hsr)).but hbut (by omega) (fun ad2 had2 _ => by
        injection had2 with had2
        subst had2
        refine ⟨fun e => HNE.out.1 (by have h : g = ad.block := (by simpa [ptrV, Value.ownBlock] using e); exact h.symm), fun e => ?_⟩
        rcases hN.out _ e with h | h
        · exact HNE.out.2 h
        · omega))
      have HN2 : Hid (Next v v2 w.heap.size) := Lib.hid fun q hq => by
        rcases hnx q hq with h | h
        · exact hN.out q h
        · exact .inr (by omega)
      have HB2 := Lib.hid (hB.out.trans ((hb1.mono (Nat.le_of_lt hgr)).trans (hbut.belowG hI.out.lo (Nat.le_refl _) (by omega))))
      clear hp2 hbut hnx hr1 hv1 hb1 hI hR hN hB HST HNE hxw hel
      go_wp2
      go_roundw
      case rel => exact ⟨k + 1, v2, by omega, by go_num, HI2, HR2, HN2, HB2⟩
      case measure => simp [intOf]; omega
    · have HF : Hid (∃ v', PgAt wr g (z.foldl Pg.num p) v' ∧ Below g w wr) := Lib.hid ⟨v', by have h := hI.out; rwa [List.take_of_length_le (by omega)] at h, hB.out⟩
      clear hI hR hN hB
      go_wp2
      go_end0
      obtain ⟨v2, h1, h2⟩ := HF.out
      exact ⟨v2, rfl, h1, h2⟩
set_option maxHeartbeats 600000 in
set_option maxRecDepth 100000 in
theorem prow_any (g : Nat) (p : Pg) (v : Value) (A : Option Addr) (z : List Int) (n c : Nat) (hn : n = z.length) (w : World) (hI : PgAt w g p v) (hr : Rd w w.heap.size A (z.map (Value.int .i64))) (hz : ∀ n ∈ z, wf64 n) (hl : z.length ≤ 140737488351232) :
    Calls Try.prog 95 #[.pointer (some ⟨g, 0, none⟩), .slice A n c] w fun e w' => ∃ v', e = .returned (.tuple #[]) ∧ PgAt w' g (p.row z) v' ∧ Below g w w' := by
  subst hn
  have HI := Lib.hid hI
  have hgl : g < w.heap.size := hI.1.lt
  have hints := Lib.hid (ints_tot A z z.length c rfl w hr hz hl)
  have HEZ := Lib.hid (encZ_small z hz)
  clear hI hr hz
  go_enter Try.func95, Try.ntmps95
  go_wp2_with fail
  refine hints.out.mono ?_
  clear hints
  rintro e w1 ⟨v1, rfl, hv1, hb1⟩
  obtain ⟨A1, c1, rfl, -, -, hr1⟩ := bs_shape hv1
  have hs1 : w.heap.size ≤ w1.heap.size := hb1.size
  have hput := Lib.hid (pput_any g p v A1 (encZ z) (encZ z).length c1 (errZ z) rfl w1 (HI.out.below hb1 (Nat.le_refl _)) hr1 HEZ.out)
  go_wp2_with fail
  refine hput.out.mono ?_
  clear hput
  rintro e w2 ⟨v2, rfl, hp2, hbut, hnx⟩
  have HF := Lib.hid (And.intro hp2 ((hb1.mono (Nat.le_of_lt hgl)).trans (hbut.belowG HI.out.lo (Nat.le_refl _) (by omega))))
  clear hp2 hbut hnx hb1 hr1 hv1 HI
  go_wp2
  go_end0
  exact ⟨v2, rfl, HF.out.1, HF.out.2⟩
set_option maxHeartbeats 600000 in
set_option maxRecDepth 100000 in
theorem pmany_any (g : Nat) (p : Pg) (v : Value) (n : Nat) (w : World) (hI : PgAt w g p v) (hn : n ≤ 9223372036854775807) :
    Calls Try.prog 96 #[.pointer (some ⟨g, 0, none⟩), .int .i64 n] w fun e w' => ∃ v', e = .returned (.tuple #[]) ∧ PgAt w' g (p.many n) v' ∧ Below g w w' := by
  obtain ⟨b, long⟩ := p
  have hgl : g < w.heap.size := hI.1.lt
  have hlo := Lib.hid hI.lo
  have HP : ∀ x : Bool, Hid (PgAt (w.setCell ⟨g, 1, none⟩ (.bool x)) g ⟨b, x⟩ v ∧ Below g w (w.setCell ⟨g, 1, none⟩ (.bool x))) := fun x =>
    Lib.hid ⟨⟨Blk.set_ hI.1 1 _, Own.far hI.2 (grown_setCell w g 1 _) (by omega)⟩, (Below.refl g w).setCell (p := ⟨g, 1, none⟩) (Nat.le_refl _) _⟩
  obtain ⟨k0, k1, f0, f1⟩ := blk2_at hI.1
  dsimp only at k1
  have HE := Lib.hid (show (encI n).length ≤ 1000000 ∧ errI n = 0 ∧ encI n = enc n from by
    have e1 : encI n = enc n := by unfold encI; rw [if_neg (by omega)]; rfl
    have := enc_len n (by omega)
    exact ⟨by rw [e1]; omega, if_neg (by omega), e1⟩)
  have hx : ∃ x : Bool, x = (long || decide (4096 < n)) ∧ (long = true ∧ x = true ∨ long = false ∧ 4096 < n ∧ x = true ∨ long = false ∧ ¬ 4096 < n ∧ x = false) := ⟨_, rfl, by
    cases long
    · by_cases h : 4096 < n <;> simp [h]
    · simp⟩
  obtain ⟨x, hx1, hx2⟩ := hx
  have HX := Lib.hid hx1
  have HPX := HP x
  clear HP hI hx1
  rcases hx2 with ⟨rfl, rfl⟩ | ⟨rfl, h4, rfl⟩ | ⟨rfl, h4, rfl⟩
  all_goals
    have huint := fun W => Lib.hid (uint_tot n (by omega) W)
    try (have h4I : (4096 : Int) < n := by omega)
    try (have h4I : ¬ (4096 : Int) < n := by omega)
    go_enter Try.func96, Try.ntmps96
    go_upto_region 1 with fail
    generalize w.setCell ⟨g, 1, none⟩ (.bool _) = w1 at HPX ⊢
    clear k0 k1 f0 f1
    go_wp2_with fail
    refine (huint w1).out.mono ?_
    clear huint
    rintro e w2 ⟨v2, rfl, hv2, hb2⟩
    obtain ⟨A2, c2, rfl, -, -, hr2⟩ := bs_shape hv2
    have hs2 : w1.heap.size ≤ w2.heap.size := hb2.size
    have hgl1 : g < w1.heap.size := HPX.out.1.1.lt
    have hput := Lib.hid (pput_any g _ v A2 (encI n) (encI n).length c2 (errI n) rfl w2 (HPX.out.1.below hb2 (Nat.le_refl _)) hr2 HE.out.1)
    go_wp2_with fail
    refine hput.out.mono ?_
    clear hput
    rintro e w3 ⟨v3, rfl, hp3, hbut, hnx⟩
    have HF := Lib.hid (And.intro hp3 (HPX.out.2.trans ((hb2.mono (Nat.le_of_lt hgl1)).trans (hbut.belowG hlo.out (Nat.le_refl _) (by omega)))))
    clear hp3 hbut hnx hb2 hr2 hv2
    go_wp2
    go_end0
    refine ⟨v3, rfl, ?_, HF.out.2⟩
    have h := HF.out.1
    rw [HE.out.2.1, HE.out.2.2] at h
    unfold Pg.many
    simp only
    rw [← HX.out]
    exact h
end Go.Proofs.Ytaadbklimfngiaa
