/- The statements' own helper OwnInts: two rows of numbers, each in a block of its own, are written over without the first one changing by the second. Condition: the two rows lie apart. -/
import Derived.Test.YtelplpajpfkfiaaTakes3
import Derived.Test.YtelplpajpfkfiaaOwned
set_option linter.unusedVariables false
namespace Go.Proofs.Ytelplpajpfkfiaa
open Go.RowKit Oct

/-- A row of numbers, known to its capacity, in a block of its own where it has any. -/
def IBlk (w : World) (A : Option Addr) (cap : Nat) (cur : List Value) : Prop := cur.length = cap ∧ (0 < cap → ∃ g, A = some ⟨g, 0, none⟩ ∧ Blk w g 3 cur.toArray)
theorem IBlk.of_own {w : World} {base : Nat} {v : Value} {z : List Int} (h : Is w base v z) : ∃ A cap cur, v = .slice A z.length cap ∧ cap ≤ 9223372036854775807 ∧ IBlk w A cap cur ∧ ∀ g, A = some ⟨g, 0, none⟩ → base ≤ g := by
  rcases Own.whole h with ⟨rfl, hz⟩ | ⟨g, cap, cur, rfl, hb, hg, hblk, hn, hc, hs, _⟩
  · have : z = [] := by simpa using hz
    subst this
    exact ⟨none, 0, [], rfl, by omega, ⟨rfl, fun h => absurd h (by omega)⟩, fun g h => by cases h⟩
  · rw [List.length_map]
    refine ⟨_, cap, cur.toList, rfl, by unfold maxLen at hc; omega, ⟨by simpa using hs, fun _ => ⟨g, rfl, by unfold Blk; simpa using hblk⟩⟩, fun g' h => ?_⟩
    injection h with h
    injection h with h
    omega
theorem IBlk.set {w : World} {g cap q : Nat} {x : Value} {cur : List Value} (hb : Blk w g 3 (List.replicate q x ++ cur.drop q).toArray) (hcs : cur.length = cap) (hq : q < cap) :
    IBlk (w.setCell ⟨g, q, none⟩ x) (some ⟨g, 0, none⟩) cap (List.replicate (q + 1) x ++ cur.drop (q + 1)) := by
  refine ⟨by simp; omega, fun _ => ⟨g, rfl, ?_⟩⟩
  rw [← fill_step cap q x cur hcs hq]
  exact hb.set_ q x
theorem IBlk.far {w : World} {A : Option Addr} {cap : Nat} {cur : List Value} (h : IBlk w A cap cur) {g : Nat} (hne : A ≠ some ⟨g, 0, none⟩) (q : Nat) (u : Value) : IBlk (w.setCell ⟨g, q, none⟩ u) A cap cur := by
  refine ⟨h.1, fun h0 => ?_⟩
  obtain ⟨g', rfl, hb⟩ := h.2 h0
  exact ⟨g', rfl, hb.far (by rintro rfl; exact hne rfl) u⟩

theorem IBlk.keep {w w' : World} {A : Option Addr} {cap : Nat} {cur : List Value} (h : IBlk w A cap cur) (hk : ∀ g, A = some ⟨g, 0, none⟩ → w'.heap[g]? = w.heap[g]?) : IBlk w' A cap cur := by
  refine ⟨h.1, fun h0 => ?_⟩
  obtain ⟨g', rfl, hb⟩ := h.2 h0
  exact ⟨g', rfl, (hk g' rfl).trans hb⟩

set_option maxHeartbeats 2000000 in
set_option maxRecDepth 100000 in
theorem ownInts_at (A B : Option Addr) (n1 c1 n2 c2 : Nat) (cur1 cur2 : List Value) (base : Nat) (w : World) (h1 : IBlk w A c1 cur1) (h2 : IBlk w B c2 cur2) (hm1 : c1 ≤ 9223372036854775807) (hm2 : c2 ≤ 9223372036854775807)
    (hb1 : ∀ g, A = some ⟨g, 0, none⟩ → base ≤ g) (hb2 : ∀ g, B = some ⟨g, 0, none⟩ → base ≤ g) (hne : ∀ g, A = some ⟨g, 0, none⟩ → B ≠ some ⟨g, 0, none⟩) :
    Calls Try.prog 41 #[.slice A n1 c1, .slice B n2 c2] w fun e w' => e = .returned (.bool true) ∧ Below base w w' := by
  have hl1 := Lib.hid h1.1
  have hl2 := Lib.hid h2.1
  have H1 := Lib.hid h1
  have H2 := Lib.hid h2
  have HB1 := Lib.hid hb1
  have HB2 := Lib.hid hb2
  have HNE := Lib.hid hne
  clear h1 h2 hb1 hb2 hne
  have k1 := fun W : World => run_cut_cap (P := Try.prog) Try.underlying41 info_int A n1 c1 (c1 : Int) rfl W
  have k2 := fun W : World => run_cut_cap (P := Try.prog) Try.underlying41 info_int B n2 c2 (c2 : Int) rfl W
  go_enter Try.func41, Try.ntmps41
  go_wp2_with fail
  go_loopw [6] (fun i wr => ∃ q : Nat, q ≤ c1 ∧ i = .int .i64 q ∧ IBlk wr A c1 (List.replicate q (.int .i64 (-7)) ++ cur1.drop q) ∧ IBlk wr B c2 cur2 ∧ Below base w wr) (fun i _ => c1 - (intOf i).toNat)
  case atStart => exact ⟨0, by omega, rfl, by simpa using H1.out, H2.out, Below.refl _ _⟩
  case round =>
    obtain ⟨q, hq, rfl, hi1, hi2, hb⟩ := hrel
    by_cases hlt : q < c1
    · obtain ⟨g, rfl, hblk⟩ := hi1.2 (by omega)
      have hcq : ∃ u, wr.cell? ⟨g, q, none⟩ = some u := by
        rw [hblk.cell]
        exact ⟨_, Array.getElem?_eq_getElem (by have := hl1.out; simp; omega)⟩
      obtain ⟨u, hcq⟩ := hcq
      have hfq := hblk.frozen q
      have r1 := IBlk.set hblk hl1.out hlt
      have r2 := hi2.far (HNE.out g rfl) q (.int .i64 (-7))
      have r3 := hb.setCell (p := ⟨g, q, none⟩) (HB1.out g rfl) (.int .i64 (-7))
      clear hi1 hi2 hb hblk
      go_wp2
      go_roundw
      case rel => exact ⟨q + 1, by omega, by go_num, r1, r2, r3⟩
      case measure => simp [intOf]; omega
    · obtain rfl : q = c1 := by omega
      rw [List.drop_of_length_le (by have := hl1.out; omega), List.append_nil] at hi1
      go_wp2_with fail
      obtain ⟨wo, hwo⟩ : ∃ wo : World, wo = wr := ⟨_, rfl⟩
      rw [← hwo] at hi1 hi2 hb ⊢
      clear hwo
      go_loopw [8] (fun i wr => ∃ p : Nat, p ≤ c2 ∧ i = .int .i64 p ∧ IBlk wr A q (List.replicate q (.int .i64 (-7))) ∧ IBlk wr B c2 (List.replicate p (.int .i64 9) ++ cur2.drop p) ∧ Below base w wr) (fun i _ => c2 - (intOf i).toNat)
      case atStart => exact ⟨0, by omega, rfl, hi1, by simpa using hi2, hb⟩
      case round =>
        clear hi1 hi2 hb
        obtain ⟨p, hp, rfl, hi1, hi2, hb⟩ := hrel
        by_cases hlt2 : p < c2
        · obtain ⟨g, rfl, hblk⟩ := hi2.2 (by omega)
          have hcq : ∃ u, wr.cell? ⟨g, p, none⟩ = some u := by
            rw [hblk.cell]
            exact ⟨_, Array.getElem?_eq_getElem (by have := hl2.out; simp; omega)⟩
          obtain ⟨u, hcq⟩ := hcq
          have hfq := hblk.frozen p
          have r1 := IBlk.set hblk hl2.out hlt2
          have r2 := hi1.far (fun h => HNE.out g h rfl) p (.int .i64 9)
          have r3 := hb.setCell (p := ⟨g, p, none⟩) (HB2.out g rfl) (.int .i64 9)
          clear hi1 hi2 hb hblk
          go_wp2
          go_roundw
          case rel => exact ⟨p + 1, by omega, by go_num, r2, r1, r3⟩
          case measure => simp [intOf]; omega
        · go_wp2_with fail
          obtain ⟨wo, hwo⟩ : ∃ wo : World, wo = wr := ⟨_, rfl⟩
          rw [← hwo] at hi1 hb ⊢
          clear hwo hi2
          go_loop [9] (fun i => ∃ p : Nat, p ≤ q ∧ i = .int .i64 p) (fun i => q - (intOf i).toNat)
          case atStart => exact ⟨0, by omega, rfl⟩
          case round =>
            obtain ⟨r, hr, rfl⟩ := hrel
            by_cases hlt3 : r < q
            · obtain ⟨g, rfl, hblk⟩ := hi1.2 (by omega)
              have hcq : wo.cell? ⟨g, r, none⟩ = some (.int .i64 (-7)) := by
                rw [hblk.cell]
                simp [hlt3]
              go_wp2
              go_round
              case rel => exact ⟨r + 1, by omega, by go_num⟩
              case measure => simp [intOf]; omega
            · go_wp2
              go_ret
              exact ⟨rfl, hb⟩
end Go.Proofs.Ytelplpajpfkfiaa
