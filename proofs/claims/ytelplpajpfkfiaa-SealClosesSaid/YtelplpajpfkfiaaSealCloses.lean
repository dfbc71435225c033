/- Pieces; any bytes: the walk of the statement. No condition. -/
import Derived.Test.YtelplpajpfkfiaaSealL
set_option linter.unusedVariables false
namespace Go.Proofs.Ytelplpajpfkfiaa
open Go.RowKit Oct

set_option maxHeartbeats 4000000 in
set_option maxRecDepth 100000 in
theorem sealCloses_walk (w : World) (A : Option Addr) (p : List UInt8) (ca : Nat) (ha : In8 w A p ca) (B : Option Addr) (b : List UInt8) (cb : Nat) (hb : In8 w B b cb) :
    Calls Try.prog 11 #[.slice A p.length ca, .slice B b.length cb] w fun e w' => e = .returned (.bool true) ∧ Below w.heap.size w w' := by
  by_cases h1 : 2097152 < p.length
  · go_enter Try.func11, Try.ntmps11
    go_wp2
    go_ret
    exact ⟨rfl, Below.refl _ _⟩
  by_cases h2 : 2097152 < b.length
  · go_enter Try.func11, Try.ntmps11
    go_wp2
    go_ret
    exact ⟨rfl, Below.refl _ _⟩
  have hcap := ha.cap
  have hcap2 := hb.cap
  have hle1 := ha.le
  have hle2 := hb.le
  go_enter Try.func11, Try.ntmps11
  go_wp2_with fail
  refine (lent_any A p ca w ha.rd (by omega)).mono ?_
  rintro e w1 ⟨rfl, hl1, hb1⟩
  go_wp2_with fail
  refine (close_any (some ⟨w.heap.size, 0, none⟩) p _ (p.length + 1) rfl w1 (hl1.rd.more hl1.lt) (by omega)).mono ?_
  rintro e w2 ⟨va, rfl, hga, hb2⟩
  have hl2 := hl1.below hb2 hl1.lt
  have hb12 := hb1.trans (hb2.mono hb1.size)
  have hga2 := hga.mono hb1.size
  clear hb2 hl1 hga
  go_wp2_with fail
  refine (rclose_any A p _ ca rfl w2 ((ha.rd.below hb12).more hb12.size) (by omega)).mono ?_
  rintro e w3 ⟨vq, rfl, hoq, hb3⟩
  have hl3 := hl2.below hb3 hl2.lt
  have hga3 := hga2.below hb3 (Nat.le_refl _)
  have hb13 := hb12.trans (hb3.mono hb12.size)
  clear hb3 hl2 hga2 hb12 hb1
  go_wp2_with fail
  refine (kept_any w.heap.size A p ca w.heap.size w3 hl3 (ha.rd.below hb13) (by omega)).mono ?_
  rintro e w3' ⟨rfl, rfl⟩
  obtain ⟨Aa, cva, rfl, hca, hma, hra⟩ := hga3.shape
  obtain ⟨Aq, cq, rfl, hcq, hmq, hrq⟩ := bs_shape hoq
  have k1 := str_of cva hra
  have k2 := str_of cq hrq
  have hlen : (closeS p).length ≤ 2097180 := by
    rcases closeE_cases p with ⟨_, _, h⟩ | ⟨_, _, _, _, h⟩
    · rw [h]; simp
    · omega
  have hd0 : (closeE p = 0 ∧ p.length + 5 ≤ (closeS p).length) ∨ (closeE p == 0) = false := by
    rcases closeE_cases p with ⟨_, h, _⟩ | ⟨_, h, _, h', _⟩
    · right; rw [h]; rfl
    · exact .inl ⟨h, h'⟩
  have HD0 := Lib.hid hd0
  clear hd0 hl3
  obtain ⟨Q, hQ⟩ : ∃ Q, Q = closeS p := ⟨_, rfl⟩
  rw [← hQ] at hra hrq k1 k2 hlen hca hcq hga3 HD0 hoq ⊢
  rcases HD0.out with ⟨e0, hge⟩ | e0
  rotate_left
  obtain ⟨E, hE⟩ : ∃ E, E = closeE p := ⟨_, rfl⟩
  rw [← hE] at e0 ⊢
  clear hE
  rotate_left
  rw [e0]
  clear e0
  all_goals
    clear HD0 hQ
    obtain ⟨X, hX⟩ : ∃ X, X = Q ++ b := ⟨_, rfl⟩
    have hXl : X.length ≤ 4294967296 := by rw [hX, List.length_append]; omega
    have HX := Lib.hid hX
    clear hX
    go_wp2_with (first | (at_builtin; refine wpList_app0 rfl (.tmp 73) (.tmp 74) 22 rfl 5 (.int .u8 0) 1 Try.underlying22 info_u8 rfl rfl Aq Q.length cq _ rfl (cells_length _).symm hrq (bytes_one _) (by omega) (by omega) ?_; intro v4 w4 hov4 hb4) | (at_builtin; refine wpList_app1 (W := w3) rfl (.tmp 75) (.tmp 76) 22 rfl 5 (.int .u8 0) 1 Try.underlying22 info_u8 rfl v4 (cells Q) rfl w3.heap.size hb4 (Nat.le_refl _) hov4 w.heap.size B b.length cb _ rfl (cells_length _).symm (hb.rd.below (hb13.trans (hb4.mono hb13.size))) (bytes_one _) (by rw [cells_length]; omega) (by rw [cells_length]; omega) ?_; intro v5 w5 hov5 hb5; rw [← cells_append, ← HX.out] at hov5; obtain ⟨A5, c5, rfl, hc5, hm5, hr5⟩ := bs_shape hov5))
    have hb15 := hb13.trans (hb5.mono hb13.size)
    have hp3 : RRd w5 w5.heap.size [Row.mk A p ca, Row.mk B b cb, Row.mk A5 X c5] := .cons ((ha.rd.below hb15).more hb15.size) (by omega) (.cons ((hb.rd.below hb15).more hb15.size) (by omega) (.cons hr5 (by omega) .nil))
    obtain ⟨q1, q2⟩ := rows_lit w5 22 _ hp3
    have hga9 : RowOk (w5.alloc (.cells ([Row.mk A p ca, Row.mk B b cb, Row.mk A5 X c5].map Row.val).toArray 22)) w.heap.size (.slice Aa Q.length cva) := (hga3.row.below hb5 (Nat.le_refl _)).alloc _
    have hb19 : Below w.heap.size w (w5.alloc (.cells ([Row.mk A p ca, Row.mk B b cb, Row.mk A5 X c5].map Row.val).toArray 22)) := hb15.alloc hb15.size _
    have hvb : ∀ g, Value.ownBlock (.slice Aa Q.length cva) = some g → w.heap.size ≤ g ∧ g < w3.heap.size := fun g h => ⟨hga3.row.base g h, hga3.row.lt g h⟩
    have hne1 : some w5.heap.size ≠ Value.ownBlock (.slice Aa Q.length cva) := fun h => by have := hvb _ h.symm; have := hb5.size; omega
    have hne2 : ∀ r ∈ [Row.mk A p ca, Row.mk B b cb, Row.mk A5 X c5], ∀ ad, r.a = some ad → 0 < (cells r.l).length → some ad.block ≠ Value.ownBlock (.slice Aa Q.length cva) := by
      intro r hr ad had hn h
      have h3 := hvb _ h.symm
      simp only [List.mem_cons, List.not_mem_nil, or_false] at hr
      rcases hr with rfl | rfl | rfl
      · obtain ⟨ad', h1, h2, _⟩ := ha.rd hn
        have h4 : A = some ad := had
        rw [h4] at h1
        injection h1 with h1
        subst h1
        omega
      · obtain ⟨ad', h1, h2, _⟩ := hb.rd hn
        have h4 : B = some ad := had
        rw [h4] at h1
        injection h1 with h1
        subst h1
        omega
      · have h4 : A5 = some ad := had
        have := (hov5.lt ad.block (by rw [h4]; rfl)).1
        omega
    have hfit : ∀ r ∈ [Row.mk A p ca, Row.mk B b cb, Row.mk A5 X c5], r.l.length ≤ 4294967296 ∧ r.l.length ≤ r.c ∧ r.c ≤ 9223372036854775807 := by
      intro r hr
      simp only [List.mem_cons, List.not_mem_nil, or_false] at hr
      rcases hr with rfl | rfl | rfl
      · exact ⟨by show p.length ≤ _; omega, hle1, by show ca ≤ _; omega⟩
      · exact ⟨by show b.length ≤ _; omega, hle2, by show cb ≤ _; omega⟩
      · exact ⟨hXl, hc5, hm5⟩
    have K1 := Lib.hid q1
    have K2 := Lib.hid q2
    have GA := Lib.hid hga9
    have NE1 := Lib.hid hne1
    have NE2 := Lib.hid hne2
    have FIT := Lib.hid hfit
    have HB := Lib.hid hb19
    clear q1 q2 hga9 hne1 hne2 hfit hb19 hp3 hvb hr5 hov5 hb5 hb15 hga3 hrq hra k1 k2 hoq hb13
    change Hid (Rd (w5.alloc (.cells #[.slice A p.length ca, .slice B b.length cb, .slice A5 X.length c5] 22)) (w5.alloc (.cells #[.slice A p.length ca, .slice B b.length cb, .slice A5 X.length c5] 22)).heap.size _ _) at K1
    change Hid (RRd (w5.alloc (.cells #[.slice A p.length ca, .slice B b.length cb, .slice A5 X.length c5] 22)) (w5.alloc (.cells #[.slice A p.length ca, .slice B b.length cb, .slice A5 X.length c5] 22)).heap.size _) at K2
    change Hid (RowOk (w5.alloc (.cells #[.slice A p.length ca, .slice B b.length cb, .slice A5 X.length c5] 22)) w.heap.size _) at GA
    change Hid (Below w.heap.size w (w5.alloc (.cells #[.slice A p.length ca, .slice B b.length cb, .slice A5 X.length c5] 22))) at HB
    have hps : [Row.mk A p ca, Row.mk B b cb, Row.mk A5 X c5].length = 3 := rfl
    generalize [Row.mk A p ca, Row.mk B b cb, Row.mk A5 X c5] = ps at K1 K2 NE2 FIT hps
    generalize w5.alloc (.cells #[.slice A p.length ca, .slice B b.length cb, .slice A5 X.length c5] 22) = W9 at K1 K2 GA HB ⊢
    generalize hG : w5.heap.size = G at K1 NE1 ⊢
    have HPS := Lib.hid hps
    clear hG hps
    obtain ⟨va, hva⟩ : ∃ va : Value, va = .slice Aa Q.length cva := ⟨_, rfl⟩
    have HVA := Lib.hid hva
    rw [← hva] at GA NE1 NE2
    clear hva
    go_loopw [12, 13, 14, 15, 16, 17, 18, 19, 20, 21] (fun i _ _ _ _ _ _ _ _ _ wr => ∃ k : Nat, k ≤ 3 ∧ i = .int .i64 k ∧ Hid (W9.grownBy wr va.ownBlock) ∧ Hid (RowOk wr w.heap.size va) ∧ Below w.heap.size w wr) (fun i _ _ _ _ _ _ _ _ _ _ => 3 - (intOf i).toNat)
    case atStart => exact ⟨0, by omega, rfl, Lib.hid (World.grownBy.refl _ _), GA, HB.out⟩
    case round =>
      obtain ⟨k, hk, rfl, hgr, hra, hbw⟩ := hrel
      by_cases hlt : k < 3
      · have hkI : (k : Int) < 3 := by omega
        have hrR := K1.out.grown_ne hgr.out (Nat.le_refl _) (fun ad had _ => by injection had with had; subst had; exact NE1.out)
        have hkl : k < ps.length := by rw [HPS.out]; exact hlt
        obtain ⟨ad', had, hbk', hcell⟩ := rd_at hrR hkl
        injection had with had
        subst had
        have hmem := List.getElem_mem hkl
        have hK2 := K2.out _ hmem
        have hN2 := NE2.out _ hmem
        have hFT := FIT.out _ hmem
        obtain ⟨a, l, c, hrow⟩ : ∃ a l c', ps[k] = Row.mk a l c' := ⟨_, _, _, rfl⟩
        rw [hrow] at hcell hK2 hN2 hFT
        rw [show (⟨G, 0, none⟩ : Addr).add k = ⟨G, k, none⟩ by simp [Addr.add_lit]] at hcell
        have hcell' : wr.cell? ⟨G, k, none⟩ = some (.slice a l.length c) := hcell
        have hrl : Rd wr wr.heap.size a (cells l) := (hK2.1.grown_ne hgr.out (Nat.le_refl _) hN2).more hgr.out.size
        obtain ⟨hf1, hf2, hf3⟩ : l.length ≤ 4294967296 ∧ l.length ≤ c ∧ c ≤ 9223372036854775807 := hFT
        have hbk2 : G < W9.heap.size := hbk'
        have hGlt : G < wr.heap.size := by have := hgr.out.size; omega
        clear hcell hrow hmem hK2 hN2 hrR
        go_wp2_with fail
        refine (lent_any a l c wr hrl (by omega)).mono ?_
        rintro e x1 ⟨rfl, hl1, hx1⟩
        have hlt1 := Blk.lt hl1
        have hcell1 : x1.cell? ⟨G, k, none⟩ = some (.slice a l.length c) := (hx1.cell (p := ⟨G, k, none⟩) hGlt).trans hcell'
        go_wp2_with fail
        refine (open_any (some ⟨wr.heap.size, 0, none⟩) l _ (l.length + 1) rfl x1 (hl1.rd.more hl1.lt) (by omega) ⟨by omega, by omega⟩).mono ?_
        rintro e x2 ⟨vv, rfl, hov2, hx2⟩
        have hl2 := hl1.below hx2 hl1.lt
        have hx12 := hx1.trans (hx2.mono hx1.size)
        have hcell2 : x2.cell? ⟨G, k, none⟩ = some (.slice a l.length c) := (hx12.cell (p := ⟨G, k, none⟩) hGlt).trans hcell'
        clear hl1 hcell1
        go_wp2_with fail
        refine (ropen_any a l _ c rfl x2 ((hrl.below hx12).more hx12.size) hf2 ⟨by omega, hf3⟩).mono ?_
        rintro e x3 ⟨uu, rfl, hov3, hx3⟩
        have hl3 := hl2.below hx3 hl2.lt
        have hx13 := hx12.trans (hx3.mono hx12.size)
        have hcell3 : x3.cell? ⟨G, k, none⟩ = some (.slice a l.length c) := (hx13.cell (p := ⟨G, k, none⟩) hGlt).trans hcell'
        have hvv3 := hov2.below hx3 (Nat.le_refl _)
        have hsz1 := hx1.size
        have hsz2 := hx2.size
        have hsz3 := hx3.size
        clear hl2 hcell2 hov2
        go_wp2_with fail
        refine (kept_any wr.heap.size a l c wr.heap.size x3 hl3 (hrl.below hx13) (by omega)).mono ?_
        rintro e x4 ⟨rfl, rfl⟩
        obtain ⟨Av, cv, rfl, hcv, hmv, hrv⟩ := bs_shape hvv3
        obtain ⟨Au, cu, rfl, hcu, hmu, hru⟩ := bs_shape hov3
        have k1 := str_of cv hrv
        have k2 := str_of cu hru
        clear hcell3 hru hrv hov3
        rw [HVA.out] at hra
        have hW9 := hgr.out.size
        have hap : Apart [.slice Aa Q.length cva, .slice Av (openS l).1.length cv, .slice (some ⟨wr.heap.size, 0, none⟩) l.length (l.length + 1)] := by
          refine apart_three (fun g h h' => ?_) (fun g h h' => ?_) (fun g h h' => ?_)
          · have := hra.out.lt g h
            have := (hvv3.lt g h').1
            omega
          · have := hra.out.lt g h
            have h2 : wr.heap.size = g := by simpa [Value.ownBlock] using h'
            omega
          · have := (hvv3.lt g h).1
            have h2 : wr.heap.size = g := by simpa [Value.ownBlock] using h'
            omega
        have hok : ∀ v ∈ [.slice Aa Q.length cva, .slice Av (openS l).1.length cv, .slice (some ⟨wr.heap.size, 0, none⟩) l.length (l.length + 1)], RowOk x3 w.heap.size v := by
          intro v hv
          simp only [List.mem_cons, List.not_mem_nil, or_false] at hv
          rcases hv with rfl | rfl | rfl
          · exact hra.out.below hx13 (Nat.le_refl _)
          · exact RowOk.of_own (hvv3.mono (by have := hbw.size; omega))
          · exact RowOk.of_lent hl3 hbw.size (by omega)
        have hbx := hbw.trans (hx13.mono hbw.size)
        have HBX := Lib.hid hbx
        have OW := Lib.hid (owned_lit _ w.heap.size x3 hok hap hbx.size (by simp))
        have HVL := Lib.hid hvv3.lt
        have HX13 := Lib.hid hx13
        clear hap hok hvv3 hl3 hbx hx2 hx12 hx1 hx3 hx13 hrl
        go_wp2_with fail
        refine OW.out.mono ?_
        rintro e x5 ⟨rfl, hb5, hk5, hr5⟩
        have hbx5 := HBX.out.trans hb5
        have hra5 : RowOk x5 w.heap.size va := by rw [HVA.out]; exact hr5 _ (by simp)
        have hgr5 : W9.grownBy x5 va.ownBlock := by
          refine ⟨hb5.os.trans (HX13.out.os.trans hgr.out.os), hb5.tape.trans (HX13.out.tape.trans hgr.out.tape), hb5.output.trans (HX13.out.output.trans hgr.out.output), by have := hb5.size; omega, fun k hk hne => ?_⟩
          refine ((hk5 k (by omega) ?_).trans (HX13.out.block k (by omega))).trans (hgr.out.block k hk hne)
          intro v hv he
          simp only [List.mem_cons, List.not_mem_nil, or_false] at hv
          rcases hv with rfl | rfl | rfl
          · rw [HVA.out] at hne
            exact hne he.symm
          · have := (HVL.out k he).1
            omega
          · have h2 : wr.heap.size = k := by simpa [Value.ownBlock] using he
            omega
        have HG5 := Lib.hid hgr5
        have HR5 := Lib.hid hra5
        clear hk5 hr5 hb5 hgr5 hra5 HVL OW HX13 hra hgr k1 k2 hcell'
        go_wp2_with fail
        exact ⟨⟨k + 1, by omega, by go_num, HG5, HR5, hbx5⟩, by simp [intOf]; omega⟩
      · obtain rfl : k = 3 := by omega
        go_wp2
        go_ret
        exact ⟨rfl, hbw⟩
end Go.Proofs.Ytelplpajpfkfiaa
