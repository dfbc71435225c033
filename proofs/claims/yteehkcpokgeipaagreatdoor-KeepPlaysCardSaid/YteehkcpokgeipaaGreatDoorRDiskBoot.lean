/- The reference's disk: Read, Boot. Condition: the disk is a call's own. -/
import Derived.Test.YteehkcpokgeipaaGreatDoorRDiskPut
import Derived.Test.YteehkcpokgeipaaGreatDoorDiskOp
import Derived.Deep.DeepMust
set_option linter.unusedVariables false
namespace Go.Proofs.YteehkcpokgeipaaGreatDoor
open Go.RowKit Go.Maps Go.Sort Oct
theorem RRow.heap {w W : World} {base : Nat} {v : Value} {es : List (Nm × RF)} (h : RRow w base v es) (e : W.heap = w.heap) : RRow W base v es := row_keep h fun k _ => by rw [e]
set_option maxHeartbeats 4000000 in
set_option maxRecDepth 100000 in
theorem rput_any {w : World} {base g : Nat} {p : PWD} {room : Int} {vL : Value} {es : List (Nm × RF)} (h : RDiskAt w base g p room vL es) (n : Nm) (f : RF) (hgot : Got w base f.v f.f.b) (hsafe : f.f.safe ≤ f.f.b.length) (hl : es.length ≤ 1099511627776) :
  Calls Tryz.prog 89 #[.pointer (some ⟨g, 0, none⟩), .agg #[.string (str n), f.v, .int .i64 f.f.safe]] w fun e w' => (∃ v, e = .returned v) ∧ ∃ vL', RDiskAt w' base g p room vL' (asPut n f es) ∧ Fr (fun k => k = g) w w' ∧ (∀ k, RFoot g vL' (asPut n f es) k → RFoot g vL es k ∨ w.heap.size ≤ k ∨ f.v.ownBlock = some k) := by
 obtain ⟨x, y, hb, _⟩ := h.blk
 have HB0 := Lib.hid hb
 obtain ⟨A, c, hvL, hlc, hcm, hat⟩ := h.shape
 obtain ⟨Af, cf, hfv, _, _, _⟩ := hgot.shape
 have HAT := Lib.hid hat
 have H := Lib.hid h
 have HGF := Lib.hid hgot
 have HSF := Lib.hid hsafe
 have hgl := h.glt
 have HBW : Hid (base ≤ w.heap.size) := Lib.hid (by have := h.low; omega)
 clear hat hb h hgot hsafe
 subst hvL
 obtain ⟨fv, fb, fs⟩ := f
 simp only at hfv
 subst hfv
 have hwA := (Below.refl w.heap.size w).alloc (Nat.le_refl _) (.cells #[.string (str n), .slice Af fb.length cf, .int .i64 (fs : Int)] 128)
 have HKA := Lib.hid (Blk.new w 128 #[.string (str n), .slice Af fb.length cf, .int .i64 (fs : Int)])
 obtain ⟨w1, hw1⟩ : ∃ w1, w1 = w.alloc (.cells #[.string (str n), .slice Af fb.length cf, .int .i64 (fs : Int)] 128) := ⟨_, rfl⟩
 have hs1 : w1.heap.size = w.heap.size + 1 := by rw [hw1]; simp
 rw [← hw1] at hwA HKA
 have HWA := Lib.hid hwA
 have HW1 := Lib.hid hw1
 clear hwA hw1
 go_enter Tryz.func89, Tryz.ntmps89
 go_wp2_with fail
 rw [← HW1.out]
 go_loopw [4, 5, 6] (fun o dn i wr => ∃ (k : Nat) (b : Bool) (out : List (Nm × RF)), k ≤ es.length ∧ i = .int .i64 k ∧ dn = .bool b ∧ Hid (putSt n ⟨.slice Af fb.length cf, fb, fs⟩ (es.take k) b out) ∧ Hid (RRow wr w1.heap.size o out) ∧ Hid (Below w1.heap.size w1 wr)) (fun _ _ i _ => es.length - (intOf i).toNat)
 case atStart => exact ⟨0, false, [], by omega, rfl, rfl, Lib.hid (.inl ⟨rfl, rfl, by simp⟩), Lib.hid (RRow.nil _ _), Lib.hid (Below.refl _ _)⟩
 case round =>
  obtain ⟨k, dn, out, hk, rfl, rfl, HP, HR, HB⟩ := hrel
  have HBw : Hid (Below w.heap.size w wr) := Lib.hid (HWA.out.trans (HB.out.mono (by omega)))
  have hKr : Blk wr g 72 _ := (HBw.out.block g hgl).trans HB0.out
  have c0 : wr.cell? ⟨g, 0, none⟩ = some (.slice A es.length c) := hKr.cell 0
  have hKF : Blk wr w.heap.size 128 _ := (HB.out.block w.heap.size (by omega)).trans HKA.out
  have k0 : wr.cell? ⟨w.heap.size, 0, none⟩ = some (.string (str n)) := hKF.cell 0
  have k1 : wr.cell? ⟨w.heap.size, 1, none⟩ = some (.slice Af fb.length cf) := hKF.cell 1
  have k2 : wr.cell? ⟨w.heap.size, 2, none⟩ = some (.int .i64 (fs : Int)) := hKF.cell 2
  have hol := putSt_len HP.out
  have hol2 : out.length ≤ k + 1 := by rw [List.length_take] at hol; omega
  clear hol
  by_cases hlt : k < es.length
  ·obtain ⟨b, rfl, hbl, q0, q1, q2, _⟩ := HAT.out k hlt
   have q0' := HBw.out.cell (p := ⟨b, k * 3, none⟩) hbl
   have q1' := HBw.out.cell (p := ⟨b, k * 3 + 1, none⟩) hbl
   have q2' := HBw.out.cell (p := ⟨b, k * 3 + 2, none⟩) hbl
   rw [q0] at q0'
   rw [q1] at q1'
   rw [q2] at q2'
   have htk : es.take (k + 1) = es.take k ++ [es[k]] := List.take_succ_eq_append_getElem hlt
   by_cases he : es[k].1 = n
   ·have HS := Lib.hid (putSt_same HP.out he)
    rw [← htk] at HS
    have hb1 : ((str es[k].1).toList == (str n).toList) = true := by rw [str_beq]; exact decide_eq_true he
    generalize es[k].1 = nm at q0' hb1
    clear he htk q0 q1 q2 q1' q2' k1 k2 hKr hKF
    go_wp2_with fail
    go_quiet (fail)
    go_wp2_with fail
    go_roundw
    case rel => exact ⟨k + 1, dn, out, by omega, by go_num, rfl, HS, Lib.hid (show RRow wr _ _ _ from HR.out), Lib.hid (below_drewN HB.out _)⟩
    case measure => simp [intOf]; omega
   ·have hb1 : ((str es[k].1).toList == (str n).toList) = false := by rw [str_beq]; exact decide_eq_false he
    have hgt := str_gtr he
    rw [hb1, Bool.or_false] at hgt
    obtain ⟨Ax, cx, hv, _, _, _⟩ := (H.out.got es[k] (List.getElem_mem hlt)).shape
    obtain ⟨q, hq⟩ : ∃ q, q = es[k] := ⟨_, rfl⟩
    rw [← hq] at q0' q1' q2' hb1 hgt hv he htk
    rw [hv] at q1'
    have HV := Lib.hid hv
    have HE := Lib.hid he
    have HTK := Lib.hid htk
    have HL : Hid (es.length ≤ 1099511627776) := Lib.hid hl
    obtain ⟨qn, qv, qb, qs⟩ := q
    simp only at q0' q1' q2' hb1 hgt
    have HQ := Lib.hid (And.intro q0 (And.intro q1 q2))
    rw [← hq, hv] at HQ
    clear he htk q0 q1 q2 hq hv hKr hKF
    cases dn with
    | true =>
     have HS := Lib.hid (putSt_after HP.out HE.out)
     rw [← HTK.out] at HS
     clear hgt k1 k2
     go_wp2_with fail
     go_quiet (fail)
     go_wp2_with fail
     go_quiet (fail)
     go_wp2_with (at_builtin; go_must (refine wpList_append_rows rfl (.tmp 46) (.tmp 54) 70 rfl w1.heap.size 128 (.agg #[.string ⟨#[]⟩, .slice none 0 0, .int .i64 0]) 3 48 Tryz.underlying70 info_file rfl (by decide) _ out.length _ rfl (RRow.below (w := wr.drewN _) (RRow.heap HR.out rfl) ((Below.refl _ _).alloc (Nat.le_refl _) _)) ⟨wr.heap.size, 0, none⟩ 1 1 [.string (str qn), .slice Ax qb.length cx, .int .i64 qs] rfl rfl (blk_cells_at (Blk.new _ 128 _)) (by simp [Value.oneCell']) (by have := HL.out; unfold maxLen; omega) (by have := HL.out; omega) (by have := HB.out.size; simp; omega) ?_; intro v2 w2 hrow hg2 _))
     obtain ⟨r1, r2⟩ := RRow.push (wr := wr.drewN _) (q := (qn, ⟨qv, ⟨qb, qs⟩⟩)) (below_drewN HB.out _) HB.out.size (RRow.heap HR.out rfl) HV.out hrow hg2
     have HR2 := Lib.hid r1
     have HB2 := Lib.hid r2
     clear r1 r2 hrow hg2
     go_roundw
     case rel => exact ⟨k + 1, true, _, by omega, by go_num, rfl, HS, HR2, HB2⟩
     case measure => simp [intOf]; omega
    | false =>
     cases hbb : bytesBefore n qn with
     | false =>
      have HS := Lib.hid (putSt_not HP.out HE.out hbb)
      rw [← HTK.out] at HS
      rw [hbb] at hgt
      have hgt' : Op.bytesLess (str qn).toList (str n).toList = true := by simpa using hgt
      clear hgt k1 k2 hbb
      go_wp2_with fail
      go_quiet (fail)
      go_wp2_with fail
      go_quiet (fail)
      go_wp2_with (at_builtin; go_must (refine wpList_append_rows rfl (.tmp 46) (.tmp 54) 70 rfl w1.heap.size 128 (.agg #[.string ⟨#[]⟩, .slice none 0 0, .int .i64 0]) 3 48 Tryz.underlying70 info_file rfl (by decide) _ out.length _ rfl (RRow.below (w := wr.drewN _) (RRow.heap HR.out rfl) ((Below.refl _ _).alloc (Nat.le_refl _) _)) ⟨wr.heap.size, 0, none⟩ 1 1 [.string (str qn), .slice Ax qb.length cx, .int .i64 qs] rfl rfl (blk_cells_at (Blk.new _ 128 _)) (by simp [Value.oneCell']) (by have := HL.out; unfold maxLen; omega) (by have := HL.out; omega) (by have := HB.out.size; simp; omega) ?_; intro v2 w2 hrow hg2 _))
      obtain ⟨r1, r2⟩ := RRow.push (wr := wr.drewN _) (q := (qn, ⟨qv, ⟨qb, qs⟩⟩)) (below_drewN HB.out _) HB.out.size (RRow.heap HR.out rfl) HV.out hrow hg2
      have HR2 := Lib.hid r1
      have HB2 := Lib.hid r2
      clear r1 r2 hrow hg2
      go_roundw
      case rel => exact ⟨k + 1, false, _, by omega, by go_num, rfl, HS, HR2, HB2⟩
      case measure => simp [intOf]; omega
     | true =>
      have HS := Lib.hid (putSt_here HP.out HE.out hbb)
      rw [← HTK.out] at HS
      rw [hbb] at hgt
      have hgt' : Op.bytesLess (str qn).toList (str n).toList = false := by simpa using hgt
      clear hgt hbb
      go_wp2_with fail
      go_quiet (fail)
      go_wp2_with fail
      go_quiet (fail)
      go_wp2_with (first | (at_builtin; refine wpList_append_rows rfl (.tmp 42) (.tmp 44) 70 rfl w1.heap.size 128 (.agg #[.string ⟨#[]⟩, .slice none 0 0, .int .i64 0]) 3 48 Tryz.underlying70 info_file rfl (by decide) _ out.length _ rfl (RRow.below (w := wr.drewN _) (RRow.heap HR.out rfl) ((Below.refl _ _).alloc (Nat.le_refl _) _)) ⟨wr.heap.size, 0, none⟩ 1 1 [.string (str n), .slice Af fb.length cf, .int .i64 fs] rfl rfl (blk_cells_at (Blk.new _ 128 _)) (by simp [Value.oneCell']) (by have := HL.out; unfold maxLen; (try simp only [List.length_append, List.length_cons, List.length_nil]); omega) (by have := HL.out; (try simp only [List.length_append, List.length_cons, List.length_nil]); omega) (by have := HB.out.size; simp; omega) ?_; intro v2 w2 hrow hg2 _; obtain ⟨r1, r2⟩ := RRow.push (wr := wr.drewN _) (q := (n, ⟨.slice Af fb.length cf, ⟨fb, fs⟩⟩)) (below_drewN HB.out _) HB.out.size (RRow.heap HR.out rfl) rfl hrow hg2; obtain ⟨o2, ho2⟩ : ∃ o2 : List (Nm × RF), o2 = out ++ [(n, ⟨.slice Af fb.length cf, ⟨fb, fs⟩⟩)] := ⟨_, rfl⟩; have hol3 : o2.length ≤ k + 2 := (by rw [ho2, List.length_append, List.length_singleton]; omega); rw [← ho2] at r1; have HO2 := Lib.hid ho2; clear ho2; have HR2 := Lib.hid r1; have HB2 := Lib.hid r2; have hbw2 : Below w.heap.size w w2 := HWA.out.trans (r2.mono (by omega)); clear r1 r2 hrow hg2 HR; have d0 := (show Blk w2 g 72 _ from (hbw2.block g hgl).trans HB0.out).cell 0; have e0 := hbw2.cell (p := ⟨b, k * 3, none⟩) hbl; have e1 := hbw2.cell (p := ⟨b, k * 3 + 1, none⟩) hbl; have e2 := hbw2.cell (p := ⟨b, k * 3 + 2, none⟩) hbl; rw [HQ.out.1] at e0; rw [HQ.out.2.1] at e1; rw [HQ.out.2.2] at e2; clear hbw2) | (at_builtin; refine wpList_append_rows rfl (.tmp 46) (.tmp 54) 70 rfl w1.heap.size 128 (.agg #[.string ⟨#[]⟩, .slice none 0 0, .int .i64 0]) 3 48 Tryz.underlying70 info_file rfl (by decide) _ o2.length _ rfl (RRow.below (w := w2) HR2.out ((Below.refl _ _).alloc (Nat.le_refl _) _)) ⟨w2.heap.size, 0, none⟩ 1 1 [.string (str qn), .slice Ax qb.length cx, .int .i64 qs] rfl rfl (blk_cells_at (Blk.new _ 128 _)) (by simp [Value.oneCell']) (by have := HL.out; unfold maxLen; (try simp only [List.length_append, List.length_cons, List.length_nil]); omega) (by have := HL.out; (try simp only [List.length_append, List.length_cons, List.length_nil]); omega) (by have := HB2.out.size; simp; omega) ?_; intro v3 w3 hrow hg3 _))
      obtain ⟨r1, r2⟩ := RRow.push (wr := w2) (q := (qn, ⟨qv, ⟨qb, qs⟩⟩)) HB2.out HB2.out.size HR2.out HV.out hrow hg3
      rw [HO2.out] at r1
      have HR3 := Lib.hid r1
      have HB3 := Lib.hid r2
      clear r1 r2 hrow hg3
      go_roundw
      case rel => exact ⟨k + 1, true, _, by omega, by go_num, rfl, HS, HR3, HB3⟩
      case measure => simp [intOf]; omega
  ·have e : es.take k = es := List.take_of_length_le (by omega)
   rw [e] at HP
   clear e
   have hfin : ∀ (W : World) (out' : List (Nm × RF)) (v : Value), RRow W w1.heap.size v out' → Below w1.heap.size w1 W → out' = asPut n ⟨.slice Af fb.length cf, ⟨fb, fs⟩⟩ es → (RDiskAt (W.setCell ⟨g, 0, none⟩ v) base g p room v (asPut n ⟨.slice Af fb.length cf, ⟨fb, fs⟩⟩ es) ∧ Fr (fun k => k = g) w (W.setCell ⟨g, 0, none⟩ v)) ∧ (∀ k, RFoot g v (asPut n ⟨.slice Af fb.length cf, ⟨fb, fs⟩⟩ es) k → RFoot g (.slice A es.length c) es k ∨ w.heap.size ≤ k ∨ (Value.slice Af fb.length cf).ownBlock = some k) := by
    intro W out' v h1 h2 h3
    subst h3
    have hl1 := h1.lt
    refine ⟨?_, fun k hk => ?_⟩
    ·have h4 := RDiskAt.setL (H.out.below HWA.out) h2 h1 (fun q hq => ?_) (fun q hq => ?_) (asPut_rising H.out.rising)
     ·exact ⟨h4.1, (Fr.of_below _ HWA.out).trans h4.2 (fun j hj => .inl hj)⟩
     ·rcases asPut_mem.1 hq with rfl | ⟨hq, _⟩
      ·exact HGF.out.below HWA.out (Nat.le_refl _)
      ·exact (H.out.got q hq).below HWA.out (Nat.le_refl _)
     ·rcases asPut_mem.1 hq with rfl | ⟨hq, _⟩
      ·exact HSF.out
      ·exact H.out.safe q hq
    ·rcases hk with rfl | hk | ⟨q, hq, hk⟩
     ·exact .inl (.inl rfl)
     ·exact .inr (.inl (by have := (hl1 k hk).1; omega))
     ·rcases asPut_mem.1 hq with rfl | ⟨hq, _⟩
      ·exact .inr (.inr hk)
      ·exact .inl (.inr (.inr ⟨q, hq, hk⟩))
   have HFIN := Lib.hid hfin
   clear hfin
   have f0 : wr.frozen? ⟨g, 0, none⟩ = false := hKr.frozen 0
   have HL : Hid (es.length ≤ 1099511627776) := Lib.hid hl
   have hgw : g < wr.heap.size := by have := HBw.out.size; omega
   cases dn with
   | true =>
    have HE := Lib.hid (putSt_end HP.out)
    rw [if_pos rfl] at HE
    obtain ⟨Ao, co, hu4⟩ := HR.out.shape
    subst hu4
    clear hKF hKr
    go_wp2_with fail
    go_end0
    obtain ⟨z1, z2⟩ := HFIN.out _ _ _ HR.out HB.out HE.out
    exact ⟨⟨_, rfl⟩, _, z1.1, z1.2, z2⟩
   | false =>
    have HE := Lib.hid (putSt_end HP.out)
    rw [if_neg (by simp)] at HE
    clear hKF hKr
    go_wp2_with (at_builtin; refine wpList_append_rows rfl (.tmp 58) (.tmp 60) 70 rfl w1.heap.size 128 (.agg #[.string ⟨#[]⟩, .slice none 0 0, .int .i64 0]) 3 48 Tryz.underlying70 info_file rfl (by decide) _ out.length _ rfl (RRow.below (w := wr) HR.out ((Below.refl _ _).alloc (Nat.le_refl _) _)) ⟨wr.heap.size, 0, none⟩ 1 1 [.string (str n), .slice Af fb.length cf, .int .i64 fs] rfl rfl (blk_cells_at (Blk.new _ 128 _)) (by simp [Value.oneCell']) (by have := HL.out; unfold maxLen; (try simp only [List.length_append, List.length_cons, List.length_nil]); omega) (by have := HL.out; (try simp only [List.length_append, List.length_cons, List.length_nil]); omega) (by have := HB.out.size; simp; omega) ?_; intro v2 w2 hrow hg2 _; obtain ⟨r1, r2⟩ := RRow.push (wr := wr) (q := (n, ⟨.slice Af fb.length cf, ⟨fb, fs⟩⟩)) HB.out HB.out.size HR.out rfl hrow hg2; obtain ⟨o2, ho2⟩ : ∃ o2 : List (Nm × RF), o2 = out ++ [(n, ⟨.slice Af fb.length cf, ⟨fb, fs⟩⟩)] := ⟨_, rfl⟩; have hol3 : o2.length ≤ k + 2 := (by rw [ho2, List.length_append, List.length_singleton]; omega); rw [← ho2] at r1; have HO2 := Lib.hid ho2; clear ho2; have HR2 := Lib.hid r1; have HB2 := Lib.hid r2; have hbw2 : Below w.heap.size w w2 := HWA.out.trans (r2.mono (by omega)); clear r1 r2 hrow hg2 HR; have hK2 : Blk w2 g 72 _ := (hbw2.block g hgl).trans HB0.out; have d0 := hK2.cell 0; have g0 : w2.frozen? ⟨g, 0, none⟩ = false := hK2.frozen 0; have hgw2 : g < w2.heap.size := hK2.lt; clear hbw2 hK2; obtain ⟨Ao, co, hu4⟩ := HR2.out.shape; subst hu4)
    go_end0
    obtain ⟨z1, z2⟩ := HFIN.out _ _ _ HR2.out HB2.out (HO2.out.trans HE.out)
    exact ⟨⟨_, rfl⟩, _, z1.1, z1.2, z2⟩
end Go.Proofs.YteehkcpokgeipaaGreatDoor
set_option linter.unusedVariables false
namespace Go.Proofs.YteehkcpokgeipaaGreatDoor
open Go.RowKit Go.Maps Go.Sort Oct
section
variable {w w1 w2 : World} {base g : Nat} {p p' : PWD} {room : Int} {vL vL' : Value} {es es' : List (Nm × RF)}
theorem asGet_rf {n : Nm} (h : asGet n es = none) : asGet n (sec RF.f es) = none := by rw [asGet_sec, h]; rfl
theorem asGet_rfs {n : Nm} {fe : RF} (h : asGet n es = some fe) : asGet n (sec RF.f es) = some fe.f := by rw [asGet_sec, h]; rfl
theorem cut_gone (h : p.cut.1 = true) : p.armed = true ∧ p.cut.2.1 = p.part := by
 unfold PWD.cut at h ⊢
 split at h
 ·cases h
 ·split at h
  ·cases h
  ·rename_i h1 h2
   rw [if_neg h1, if_neg h2]
   exact ⟨by simpa using h1, rfl⟩
theorem rto_mk {fs : List (Nm × FD)} (hf1 : Fr (RFoot g vL es) w w1) (h2 : RDiskAt w2 base g p' room vL' es') (hs : sec RF.f es' = fs) (hf2 : Fr (RFoot g vL es) w1 w2) (hk : ∀ k, RFoot g vL' es' k → RFoot g vL es k ∨ w1.heap.size ≤ k) : RTo w base g vL es ⟨p', room, fs⟩ w2 :=
 ⟨vL', es', h2, hs, hf1.trans hf2 (fun j hj => .inl hj), fun k hkk => by
  rcases hk k hkk with h5 | h5
  ·exact .inl h5
  ·exact .inr (Nat.le_trans hf1.size h5)⟩
theorem whole_done {d : DkD} {fs : List (Nm × FD)} (h : d.pw.cut.1 = false ∨ d.pw.cut.2.1 % 2 = 1) : d.whole fs = (if d.pw.cut.1 = true then 50 else 0, ⟨d.pw.cut.2.2, d.room, fs⟩) := by
 have hc : d.pw.cut.1 = false ∨ d.pw.cut.2.1 % 2 ≠ 0 := by
  rcases h with h | h
  ·exact .inl h
  ·exact .inr (by omega)
 unfold DkD.whole
 simp only [if_pos hc]
theorem whole_not {d : DkD} {fs : List (Nm × FD)} (h : d.pw.cut.1 = true) (h2 : d.pw.cut.2.1 % 2 ≠ 1) : d.whole fs = (50, ⟨d.pw.cut.2.2, d.room, d.fs⟩) := by
 have hc : ¬ (d.pw.cut.1 = false ∨ d.pw.cut.2.1 % 2 ≠ 0) := by rw [h]; simp; omega
 unfold DkD.whole
 simp only [if_pos h, if_neg hc]
set_option maxHeartbeats 2000000 in
theorem rremove_any (h : RDiskAt w base g p room vL es) (n : Nm) (hl : es.length ≤ 1099511627776) :
  Calls Tryz.prog 44 #[.pointer (some ⟨g, 0, none⟩), .string (str n)] w fun e w' => e = .returned (.int .i64 ((rkOf p room es).remove n).1) ∧ RTo w base g vL es ((rkOf p room es).remove n).2 w' := by
 obtain ⟨x, y, hb, hxy, hx, hy⟩ := h.blk
 obtain ⟨⟨c0, c1, c2, c3, c4, c5⟩, _⟩ := rblk6 hb
 have H := Lib.hid h
 have HAT := Lib.hid (rat_any h n (by omega))
 have HY := Lib.hid hy
 have HXY := Lib.hid hxy
 by_cases ho : p.off = true
 ·have e : (rkOf p room es).remove n = (50, rkOf p room es) := by unfold DkD.remove; rw [if_pos ho]
  rw [e]
  rw [ho] at c2
  clear h e hb hxy hx hy
  go_enter Tryz.func44, Tryz.ntmps44
  go_wp2_with fail
  refine HAT.out.mono ?_
  rintro e w' ⟨rfl, rfl⟩
  go_wp2_with fail
  go_ret
  exact ⟨rfl, RTo.mk' H.out (Fr.refl _ _)⟩
 ·have ho' : p.off = false := by simpa using ho
  cases hg : asGet n es with
  | none =>
   have e : (rkOf p room es).remove n = (51, rkOf p room es) := by unfold DkD.remove; rw [if_neg ho]; simp only [asGet_rf hg]
   rw [e]
   rw [ho'] at c2
   have ek := rAt_of_none hg
   rw [ek] at HAT
   clear h e hb hxy hx hy ek
   go_enter Tryz.func44, Tryz.ntmps44
   go_wp2_with fail
   refine HAT.out.mono ?_
   rintro e w' ⟨rfl, rfl⟩
   go_wp2_with fail
   go_ret
   exact ⟨rfl, RTo.mk' H.out (Fr.refl _ _)⟩
  | some fe =>
   obtain ⟨k, hk, ek, hek⟩ := rAt_of_get hg
   have e : (rkOf p room es).remove n = (rkOf p room es).whole (asDel n (sec RF.f es)) := by unfold DkD.remove; rw [if_neg ho]; simp only [asGet_rfs hg]
   rw [ek] at HAT
   rw [ho'] at c2
   have HGO := Lib.hid (rgoes_any h)
   have hkI : ¬ ((k : Int) < 0) := by omega
   have hDR : Hid (∀ w1, RDiskAt w1 base g p.cut.2.2 room vL es → Calls Tryz.prog 92 #[.pointer (some ⟨g, 0, none⟩), .string (str n)] w1 fun e w' => (∃ v, e = .returned v) ∧ ∃ vL', RDiskAt w' base g p.cut.2.2 room vL' (asDel n es) ∧ Fr (fun k => k = g) w1 w' ∧ (∀ k, RFoot g vL' (asDel n es) k → RFoot g vL es k ∨ w1.heap.size ≤ k)) := Lib.hid (fun w1 h1 => rdrop_any h1 n hl)
   cases hgo : p.cut.1 with
   | false =>
    have e2 := whole_done (d := rkOf p room es) (fs := asDel n (sec RF.f es)) (.inl hgo)
    rw [e, e2, hgo]
    rw [hgo] at HGO
    clear h e e2 hb hxy hx hy ek hek hgo
    go_enter Tryz.func44, Tryz.ntmps44
    go_wp2_with fail
    refine HAT.out.mono ?_
    rintro e w' ⟨rfl, rfl⟩
    go_wp2_with fail
    refine HGO.out.mono ?_
    rintro e w1 ⟨rfl, hD1, hF1, _⟩
    have HF1 := Lib.hid hF1
    have HDR := Lib.hid (hDR.out w1 hD1)
    clear hD1 hF1 HGO hDR
    go_wp2_with fail
    refine HDR.out.mono ?_
    rintro e w2 ⟨⟨v, rfl⟩, vL', hD2, hF2, hk2⟩
    have HR := Lib.hid (rto_mk HF1.out hD2 (asDel_sec RF.f n es) (hF2.mono (fun j _ e => .inl e)) hk2)
    clear hD2 hF2 hk2 HDR
    have HEN := Lib.hid (rend_any false w2)
    go_wp2_with fail
    refine HEN.out.mono ?_
    rintro e w' ⟨rfl, rfl⟩
    go_wp2_with fail
    go_ret
    exact ⟨rfl, HR.out⟩
   | true =>
    obtain ⟨har, hpt⟩ := cut_gone hgo
    have hyp : y = p.cut.2.1 := by rw [hpt]; exact (hxy har).2
    have HMO := fun W : World => Lib.hid (rmod_any y 2 hy (by omega) W)
    by_cases h2 : y % 2 = 1
    ·have e2 := whole_done (d := rkOf p room es) (fs := asDel n (sec RF.f es)) (.inr (by show p.cut.2.1 % 2 = 1; rw [← hyp]; exact h2))
     rw [e, e2, hgo]
     rw [hgo] at HGO
     rw [h2] at HMO
     clear h e e2 hb hxy hx hy ek hek hgo h2 hyp har hpt
     go_enter Tryz.func44, Tryz.ntmps44
     go_wp2_with fail
     refine HAT.out.mono ?_
     rintro e w' ⟨rfl, rfl⟩
     go_wp2_with fail
     refine HGO.out.mono ?_
     rintro e w1 ⟨rfl, hD1, hF1, _⟩
     have HF1 := Lib.hid hF1
     have HDR := Lib.hid (hDR.out w1 hD1)
     clear hD1 hF1 HGO hDR
     go_wp2_with fail
     refine (HMO w1).out.mono ?_
     rintro e w' ⟨rfl, rfl⟩
     go_wp2_with fail
     refine HDR.out.mono ?_
     rintro e w2 ⟨⟨v, rfl⟩, vL', hD2, hF2, hk2⟩
     have HR := Lib.hid (rto_mk HF1.out hD2 (asDel_sec RF.f n es) (hF2.mono (fun j _ e => .inl e)) hk2)
     clear hD2 hF2 hk2 HDR
     have HEN := Lib.hid (rend_any true w2)
     go_wp2_with fail
     refine HEN.out.mono ?_
     rintro e w' ⟨rfl, rfl⟩
     go_wp2_with fail
     go_ret
     exact ⟨rfl, HR.out⟩
    ·have e2 := whole_not (d := rkOf p room es) (fs := asDel n (sec RF.f es)) hgo (by show p.cut.2.1 % 2 ≠ 1; rw [← hyp]; exact h2)
     rw [e, e2]
     rw [hgo] at HGO
     obtain ⟨y2, hy2⟩ : ∃ y2, y2 = y % 2 := ⟨_, rfl⟩
     rw [← hy2] at h2 HMO
     clear h e e2 hb hxy hx hy ek hek hgo hyp har hpt hy2 hDR
     go_enter Tryz.func44, Tryz.ntmps44
     go_wp2_with fail
     refine HAT.out.mono ?_
     rintro e w' ⟨rfl, rfl⟩
     go_wp2_with fail
     refine HGO.out.mono ?_
     rintro e w1 ⟨rfl, hD1, hF1, _⟩
     have HR := Lib.hid (rto_mk (Fr.refl _ _) hD1 rfl hF1 (fun k hk => .inl hk))
     have HEN := Lib.hid (rend_any true w1)
     clear hD1 hF1 HGO
     go_wp2_with fail
     refine (HMO w1).out.mono ?_
     rintro e w' ⟨rfl, rfl⟩
     go_wp2_with fail
     refine HEN.out.mono ?_
     rintro e w' ⟨rfl, rfl⟩
     go_wp2_with fail
     go_ret
     exact ⟨rfl, HR.out⟩
theorem asPut_set {α : Type} {a : α} : ∀ {l : List (Nm × α)} (hr : Rising l) {k : Nat} (hk : k < l.length), asPut l[k].1 a l = l.set k (l[k].1, a)
 | [], _, k, hk => by simp at hk
 | y :: r, hr, k, hk => by
  have h1 := List.pairwise_cons.1 hr
  have hne : ∀ q ∈ r, q.1 ≠ y.1 := fun q hq e => by
   have := h1.1 q hq
   rw [e, show bytesBefore y.1 y.1 = false from WideAt.bytes_irrefl _] at this
   cases this
  cases k with
  | zero =>
   simp only [List.getElem_cons_zero, List.set_cons_zero]
   unfold asPut asDel
   rw [List.filter_cons_of_neg (by simp), List.filter_eq_self.2 (fun q hq => by simpa using hne q hq)]
   cases r with
   | nil => rfl
   | cons z r =>
    unfold asIns
    rw [if_pos (h1.1 z (List.mem_cons_self ..))]
  | succ k =>
   have hk' : k < r.length := by simpa using hk
   simp only [List.getElem_cons_succ, List.set_cons_succ]
   have ih := asPut_set (a := a) h1.2 hk'
   unfold asPut asDel at ih ⊢
   have h2 := h1.1 r[k] (List.getElem_mem hk')
   rw [List.filter_cons_of_pos (by simpa using (hne _ (List.getElem_mem hk')).symm)]
   unfold asIns
   rw [if_neg (fun h3 => by
    have := WideShapes.bytes_trans _ _ _ h2 h3
    rw [show bytesBefore y.1 y.1 = false from WideAt.bytes_irrefl _] at this
    cases this)]
   rw [ih]
theorem RDiskAt.setRow {b c : Nat} (h : RDiskAt w base g p room (.slice (some ⟨b, 0, none⟩) es.length c) es) {k : Nat} (hk : k < es.length) (q' : RF) (st : List Value → List Value) (hst : ∀ l, (st l).length = l.length) (hw : ∀ i, i ≠ b → w2.heap[i]? = w.heap[i]?) (hsz : w2.heap.size = w.heap.size) (hos : w2.os = w.os ∧ w2.tape = w.tape ∧ w2.output = w.output)
  (hb : ∀ cur, Blk w b 128 cur → ∃ cur', Blk w2 b 128 cur' ∧ cur'.size = cur.size ∧ ∀ N, cur'.toList.take N = st (cur.toList.take N)) (hq : st (rfCells es) = rfCells (es.set k (es[k].1, q'))) (hgot : Got w base q'.v q'.f.b) (hsafe : q'.f.safe ≤ q'.f.b.length)
  (hfoot : ∀ i, q'.v.ownBlock = some i → RFoot g (.slice (some ⟨b, 0, none⟩) es.length c) es i ∨ w1.heap.size ≤ i) :
  RDiskAt w2 base g p room (.slice (some ⟨b, 0, none⟩) es.length c) (asPut es[k].1 q' es) ∧ Fr (RFoot g (.slice (some ⟨b, 0, none⟩) es.length c) es) w w2 ∧
  (∀ i, RFoot g (.slice (some ⟨b, 0, none⟩) es.length c) (asPut es[k].1 q' es) i → RFoot g (.slice (some ⟨b, 0, none⟩) es.length c) es i ∨ w1.heap.size ≤ i) := by
 have hset := asPut_set (a := q') h.rising hk
 have hrise := asPut_rising (n := es[k].1) (a := q') h.rising
 obtain ⟨x, y, hB, hxy⟩ := h.blk
 have hbb : base ≤ b := (World.ownsRow.lt h.own b rfl).1
 have hgb : g ≠ b := fun e => row_blk_ne h.own hB (by decide) (by rw [e]; rfl)
 have hgk : ∀ q : Nm × RF, Got w base q.2.v q.2.f.b → Got w2 base q.2.v q.2.f.b := fun q hq => hq.kept (fun i hi => hw i (fun e => row_got_ne h.own hq (by decide) i hi (by rw [e]; rfl))) (by rw [hsz]; exact Nat.le_refl _)
 refine ⟨⟨⟨x, y, (hw g hgb).trans hB, hxy⟩, ?_, fun q hq => ?_, fun q hq => ?_, hrise, h.low, h.num⟩, ⟨hos.1, hos.2.1, hos.2.2, by rw [hsz]; exact Nat.le_refl _, fun i _ hm => hw i (fun e => hm (.inr (.inl (by rw [e]; rfl))))⟩, fun i hi => ?_⟩
 ·rw [hset, ← hq, List.length_set]
  refine ⟨by rw [hst, rfCells_len], .inr ?_⟩
  rcases h.own.2 with ⟨hn, _⟩ | ⟨b', cap, cur, hv, _, hg', hc, hcm, hcs, hx⟩
  ·cases hn
  ·injection hv with hv1 _ hv3
   injection hv1 with hv1
   injection hv1 with hv1
   subst hv1 hv3
   obtain ⟨cur', h1, h2, h3⟩ := hb cur hg'
   exact ⟨b, c, cur', rfl, hbb, h1, hc, hcm, by rw [h2]; exact hcs, by rw [h3, hx]⟩
 ·rcases asPut_mem.1 hq with rfl | ⟨hq, _⟩
  ·exact hgk (es[k].1, q') hgot
  ·exact hgk q (h.got q hq)
 ·rcases asPut_mem.1 hq with rfl | ⟨hq, _⟩
  ·exact hsafe
  ·exact h.safe q hq
 ·rcases hi with rfl | hi | ⟨q, hq, hi⟩
  ·exact .inl (.inl rfl)
  ·exact .inl (.inr (.inl hi))
  ·rcases asPut_mem.1 hq with rfl | ⟨hq, _⟩
   ·exact hfoot i hi
   ·exact .inl (.inr (.inr ⟨q, hq, hi⟩))
theorem take_set_arr (cur : Array Value) (i : Nat) (u : Value) (N : Nat) : (cur.setIfInBounds i u).toList.take N = (cur.toList.take N).set i u := by rw [Array.toList_setIfInBounds, List.take_set]
theorem RDiskAt.setFile {b c : Nat} (h : RDiskAt w base g p room (.slice (some ⟨b, 0, none⟩) es.length c) es) {k : Nat} (hk : k < es.length) {j : Nat} (hj : j < 3) (u : Value) (q' : RF) (hq : rfOne (es[k].1, q') = (rfOne es[k]).set j u) (hgot : Got w base q'.v q'.f.b) (hsafe : q'.f.safe ≤ q'.f.b.length)
  (hfoot : ∀ i, q'.v.ownBlock = some i → RFoot g (.slice (some ⟨b, 0, none⟩) es.length c) es i ∨ w1.heap.size ≤ i) :
  RDiskAt (w.setCell ⟨b, k * 3 + j, none⟩ u) base g p room (.slice (some ⟨b, 0, none⟩) es.length c) (asPut es[k].1 q' es) ∧ Fr (RFoot g (.slice (some ⟨b, 0, none⟩) es.length c) es) w (w.setCell ⟨b, k * 3 + j, none⟩ u) ∧
  (∀ i, RFoot g (.slice (some ⟨b, 0, none⟩) es.length c) (asPut es[k].1 q' es) i → RFoot g (.slice (some ⟨b, 0, none⟩) es.length c) es i ∨ w1.heap.size ≤ i) :=
 h.setRow hk q' (fun l => l.set (k * 3 + j) u) (fun l => List.length_set ..) (fun i hi => Below.heap_setCell w ⟨b, k * 3 + j, none⟩ u i (by simpa using hi)) (by simp) ⟨(grown_setCell w b (k * 3 + j) u).os, (grown_setCell w b (k * 3 + j) u).tape, (grown_setCell w b (k * 3 + j) u).output⟩
  (fun cur hc => ⟨_, Blk.set_ hc (k * 3 + j) u, by simp, fun N => take_set_arr cur _ u N⟩) (rfCells_set es hk hj u (es[k].1, q') hq) hgot hsafe hfoot
theorem RDiskAt.setBoth {b c : Nat} (h : RDiskAt w base g p room (.slice (some ⟨b, 0, none⟩) es.length c) es) {k : Nat} (hk : k < es.length) (q' : RF) (hgot : Got w base q'.v q'.f.b) (hsafe : q'.f.safe ≤ q'.f.b.length) (nt : Nat)
  (hfoot : ∀ i, q'.v.ownBlock = some i → RFoot g (.slice (some ⟨b, 0, none⟩) es.length c) es i ∨ w1.heap.size ≤ i) :
  RDiskAt (((w.setCell ⟨b, k * 3 + 1, none⟩ q'.v).drewN nt).setCell ⟨b, k * 3 + 2, none⟩ (.int .i64 q'.f.safe)) base g p room (.slice (some ⟨b, 0, none⟩) es.length c) (asPut es[k].1 q' es) ∧ Fr (RFoot g (.slice (some ⟨b, 0, none⟩) es.length c) es) w (((w.setCell ⟨b, k * 3 + 1, none⟩ q'.v).drewN nt).setCell ⟨b, k * 3 + 2, none⟩ (.int .i64 q'.f.safe)) ∧
  (∀ i, RFoot g (.slice (some ⟨b, 0, none⟩) es.length c) (asPut es[k].1 q' es) i → RFoot g (.slice (some ⟨b, 0, none⟩) es.length c) es i ∨ w1.heap.size ≤ i) := by
 have hgr := grown_then (grown_drewN (grown_setCell w b (k * 3 + 1) q'.v) nt) (grown_setCell ((w.setCell ⟨b, k * 3 + 1, none⟩ q'.v).drewN nt) b (k * 3 + 2) (.int .i64 q'.f.safe)) (.inl rfl)
 refine h.setRow hk q' (fun l => (l.set (k * 3 + 1) q'.v).set (k * 3 + 2) (.int .i64 q'.f.safe)) (fun l => by rw [List.length_set, List.length_set]) (fun i hi => ?_) (by simp) ⟨hgr.os, hgr.tape, hgr.output⟩ (fun cur hc => ?_) ?_ hgot hsafe hfoot
 ·rw [Below.heap_setCell _ ⟨b, k * 3 + 2, none⟩ _ i (by simpa using hi)]
  exact Below.heap_setCell w ⟨b, k * 3 + 1, none⟩ q'.v i (by simpa using hi)
 ·exact ⟨_, Blk.set_ ((Blk.set_ hc (k * 3 + 1) q'.v).drewN nt) (k * 3 + 2) _, by simp, fun N => by rw [take_set_arr, take_set_arr]⟩
 ·have h1 := rfCells_set es hk (j := 1) (by omega) q'.v (es[k].1, ⟨q'.v, es[k].2.f⟩) (by simp [rfOne])
  have hk' : k < (es.set k (es[k].1, ⟨q'.v, es[k].2.f⟩)).length := by simpa using hk
  have h2 := rfCells_set (es.set k (es[k].1, ⟨q'.v, es[k].2.f⟩)) hk' (j := 2) (by omega) (.int .i64 q'.f.safe) (es[k].1, q') (by simp [rfOne])
  show ((rfCells es).set (k * 3 + 1) q'.v).set (k * 3 + 2) (.int .i64 q'.f.safe) = _
  rw [h1, h2, List.set_set]
set_option maxHeartbeats 2000000 in
theorem rsync_any (h : RDiskAt w base g p room vL es) (n : Nm) (hl : es.length ≤ 1099511627776) :
  Calls Tryz.prog 76 #[.pointer (some ⟨g, 0, none⟩), .string (str n)] w fun e w' => e = .returned (.int .i64 ((rkOf p room es).sync n).1) ∧ RTo w base g vL es ((rkOf p room es).sync n).2 w' := by
 obtain ⟨x, y, hb, hxy, hx, hy⟩ := h.blk
 obtain ⟨⟨c0, c1, c2, c3, c4, c5⟩, _⟩ := rblk6 hb
 have H := Lib.hid h
 have HAT := Lib.hid (rat_any h n (by omega))
 by_cases ho : p.off = true
 ·have e : (rkOf p room es).sync n = (50, rkOf p room es) := by unfold DkD.sync; rw [if_pos ho]
  rw [e]
  rw [ho] at c2
  clear h e hb hxy hx hy
  go_enter Tryz.func76, Tryz.ntmps76
  go_wp2_with fail
  refine HAT.out.mono ?_
  rintro e w' ⟨rfl, rfl⟩
  go_wp2_with fail
  go_ret
  exact ⟨rfl, RTo.mk' H.out (Fr.refl _ _)⟩
 ·have ho' : p.off = false := by simpa using ho
  cases hg : asGet n es with
  | none =>
   have e : (rkOf p room es).sync n = (51, rkOf p room es) := by unfold DkD.sync; rw [if_neg ho]; simp only [asGet_rf hg]
   rw [e]
   rw [ho'] at c2
   have ek := rAt_of_none hg
   rw [ek] at HAT
   clear h e hb hxy hx hy ek
   go_enter Tryz.func76, Tryz.ntmps76
   go_wp2_with fail
   refine HAT.out.mono ?_
   rintro e w' ⟨rfl, rfl⟩
   go_wp2_with fail
   go_ret
   exact ⟨rfl, RTo.mk' H.out (Fr.refl _ _)⟩
  | some fe =>
   obtain ⟨k, hk, ek, hek⟩ := rAt_of_get hg
   rw [ek] at HAT
   rw [ho'] at c2
   have HGO := Lib.hid (rgoes_any h)
   have hkI : ¬ ((k : Int) < 0) := by omega
   cases hgo : p.cut.1 with
   | true =>
    have e : (rkOf p room es).sync n = (50, ⟨p.cut.2.2, room, sec RF.f es⟩) := by unfold DkD.sync; rw [if_neg ho]; simp only [asGet_rfs hg]; rw [if_pos hgo]
    rw [e]
    rw [hgo] at HGO
    clear h e hb hxy hx hy ek hek hgo
    go_enter Tryz.func76, Tryz.ntmps76
    go_wp2_with fail
    refine HAT.out.mono ?_
    rintro e w' ⟨rfl, rfl⟩
    go_wp2_with fail
    refine HGO.out.mono ?_
    rintro e w1 ⟨rfl, hD1, hF1, _⟩
    have HR := Lib.hid (rto_mk (Fr.refl _ _) hD1 rfl hF1 (fun k hk => .inl hk))
    have HEN := Lib.hid (rend_any true w1)
    clear hD1 hF1 HGO
    go_wp2_with fail
    refine HEN.out.mono ?_
    rintro e w' ⟨rfl, rfl⟩
    go_wp2_with fail
    go_ret
    exact ⟨rfl, HR.out⟩
   | false =>
    have e : (rkOf p room es).sync n = (0, ⟨p.cut.2.2, room, asPut n ⟨fe.f.b, fe.f.b.length⟩ (sec RF.f es)⟩) := by unfold DkD.sync; rw [if_neg ho]; simp only [asGet_rfs hg]; rw [if_neg (by rw [hgo]; simp)]
    rw [e]
    rw [hgo] at HGO
    have HL : Hid (es.length ≤ 1099511627776) := Lib.hid hl
    clear h e hb hxy hx hy ek hgo hl
    go_enter Tryz.func76, Tryz.ntmps76
    go_wp2_with fail
    refine HAT.out.mono ?_
    rintro e w' ⟨rfl, rfl⟩
    go_wp2_with fail
    refine HGO.out.mono ?_
    rintro e w1 ⟨rfl, hD1, hF1, _⟩
    obtain ⟨A, c, rfl, hlc, hcm, hat⟩ := hD1.shape
    obtain ⟨b, rfl, hbl, q0, q1, q2, g1, g2⟩ := hat k hk
    obtain ⟨x1, y1, hb1, _⟩ := hD1.blk
    have d0 := hb1.cell 0
    have hmem : es[k] ∈ es := List.getElem_mem hk
    obtain ⟨Ax, cx, hv, hvl, _, _⟩ := (hD1.got _ hmem).shape
    have hsf := hD1.safe _ hmem
    have HSET := fun nt => Lib.hid ((hD1.drewN_ nt).setFile (w1 := w1) hk (j := 2) (by omega) (.int .i64 (fe.f.b.length : Int)) ⟨fe.v, ⟨fe.f.b, fe.f.b.length⟩⟩ (by rw [hek]; simp [rfOne]) (by have := hD1.got _ hmem; rw [hek] at this; exact this.kept (fun _ _ => rfl) (Nat.le_refl _)) (Nat.le_refl _) (fun i hi => .inl (.inr (.inr ⟨_, hmem, by rw [hek]; exact hi⟩))))
    have HF1 := Lib.hid hF1
    have HSEC : Hid (sec RF.f (asPut es[k].1 ⟨fe.v, ⟨fe.f.b, fe.f.b.length⟩⟩ es) = asPut n ⟨fe.f.b, fe.f.b.length⟩ (sec RF.f es)) := Lib.hid (by rw [asPut_sec, hek])
    rw [hv, hek] at q1
    rw [hek] at hvl
    have hbl1 : b < w1.heap.size := hbl
    simp only at q1 hvl
    have HHE := Lib.hid hek
    clear hD1 hF1 HGO hb1 hat hv hmem hsf q0 hek
    go_wp2_with fail
    refine wp_region_quiet_tail 16 (by kernel_rfl) (by kernel_rfl) ?_
    simp only [List.take_succ_cons, List.take_zero, List.drop_succ_cons, List.drop_zero]
    iterate 16 go_big_quiet_step (fail)
    refine wpQuiet_nil ?_
    rintro _ ⟨nt, rfl⟩
    go_wp2_with fail
    have HR := Lib.hid (rto_mk HF1.out (HSET nt).out.1 HSEC.out (((Fr.refl _ _).drewN_ nt).trans (HSET nt).out.2.1 (fun j hj => .inl hj)) (HSET nt).out.2.2)
    have HEN := Lib.hid (rend_any false ((w1.drewN nt).setCell ⟨b, k * 3 + 2, none⟩ (.int .i64 (fe.f.b.length : Int))))
    refine HEN.out.mono ?_
    rintro e w' ⟨rfl, rfl⟩
    go_wp2_with fail
    go_ret
    exact ⟨rfl, HR.out⟩
end
end Go.Proofs.YteehkcpokgeipaaGreatDoor
set_option linter.unusedVariables false
namespace Go.Proofs.YteehkcpokgeipaaGreatDoor
open Go.RowKit Go.Maps Go.Sort Oct
theorem isEmpty_str {n : Nm} (h : n ≠ []) : (str n).toList.isEmpty = false := by
 rw [str_toList]
 exact List.isEmpty_eq_false_iff.2 h
theorem Got.cutTo {w : World} {base : Nat} {A : Option Addr} {n c m : Nat} {l : List UInt8} (h : Got w base (.slice A n c) l) (hm : m ≤ l.length) : Got w base (.slice A m c) (l.take m) := by
 obtain ⟨A', c', hv, h1, h2, h3⟩ := h.shape
 injection hv with e1 e2 e3
 subst e1 e3
 have hl : (l.take m).length = m := by rw [List.length_take]; omega
 refine ⟨⟨A, c, by rw [hl], by omega, h2, by unfold cells; rw [List.map_take]; exact Rd.take h3 m⟩, ?_⟩
 rcases h.row with hr | ⟨g', n', cap, cur, hv', hb, hk, h4, h5, h6⟩
 ·injection hr with r1 r2 r3
  subst r1 r3
  have : m = 0 := by omega
  subst this
  exact .inl rfl
 ·injection hv' with r1 r2 r3
  subst r1 r3
  exact .inr ⟨g', m, c, cur, rfl, hb, hk, h4, by omega, h6⟩
theorem own_len (A : Option Addr) (n n' c c' : Nat) : (Value.slice A n c).ownBlock = (Value.slice A n' c').ownBlock := by cases A <;> rfl
section
variable {w w1 w2 : World} {base g : Nat} {p p' : PWD} {room : Int} {vL vL' : Value} {es es' : List (Nm × RF)}
set_option maxHeartbeats 4000000 in
theorem rrename_any (h : RDiskAt w base g p room vL es) (n tn : Nm) (htn : tn.length ≤ 140737488351232) (hl : es.length ≤ 549755813888) :
  Calls Tryz.prog 77 #[.pointer (some ⟨g, 0, none⟩), .string (str n), .string (str tn)] w fun e w' => e = .returned (.int .i64 ((rkOf p room es).rename n tn).1) ∧ RTo w base g vL es ((rkOf p room es).rename n tn).2 w' := by
 obtain ⟨x, y, hb, hxy, hx, hy⟩ := h.blk
 obtain ⟨⟨c0, c1, c2, c3, c4, c5⟩, _⟩ := rblk6 hb
 have HAT := Lib.hid (rat_any h n (by omega))
 have HR := Lib.hid (RTo.mk' h (Fr.refl (RFoot g vL es) w))
 by_cases ho : p.off = true
 ·have e : (rkOf p room es).rename n tn = (50, rkOf p room es) := by unfold DkD.rename; rw [if_pos ho]
  rw [e]
  rw [ho] at c2
  clear h e hb hxy hx hy
  go_enter Tryz.func77, Tryz.ntmps77
  go_wp2_with fail
  refine HAT.out.mono ?_
  rintro e w' ⟨rfl, rfl⟩
  go_wp2_with fail
  go_ret
  exact ⟨rfl, HR.out⟩
 ·have ho' : p.off = false := by simpa using ho
  cases hg : asGet n es with
  | none =>
   have e : (rkOf p room es).rename n tn = (51, rkOf p room es) := by unfold DkD.rename; rw [if_neg ho]; simp only [asGet_rf hg]
   rw [e]
   rw [ho'] at c2
   have ek := rAt_of_none hg
   rw [ek] at HAT
   clear h e hb hxy hx hy ek
   go_enter Tryz.func77, Tryz.ntmps77
   go_wp2_with fail
   refine HAT.out.mono ?_
   rintro e w' ⟨rfl, rfl⟩
   go_wp2_with fail
   go_ret
   exact ⟨rfl, HR.out⟩
  | some fe =>
   obtain ⟨k, hk, ek, hek⟩ := rAt_of_get hg
   rw [ek] at HAT
   rw [ho'] at c2
   have hkI : ¬ ((k : Int) < 0) := by omega
   have heq : ((str n).toList == (str tn).toList) = decide (n = tn) := str_beq n tn
   have hsz : (str tn).size = tn.length := str_size tn
   by_cases hbad : tn = [] ∨ 32 < tn.length ∨ n = tn
   ·have e : (rkOf p room es).rename n tn = (1, rkOf p room es) := by unfold DkD.rename; rw [if_neg ho]; simp only [asGet_rfs hg]; rw [if_pos hbad]
    rw [e]
    clear h e hb hxy hx hy ek hek hg
    by_cases h1 : tn = []
    ·subst h1
     have hne0 : (str ([] : Nm)).toList.isEmpty = true := by rw [str_toList]; rfl
     clear hbad heq
     go_enter Tryz.func77, Tryz.ntmps77
     go_wp2_with fail
     refine HAT.out.mono ?_
     rintro e w' ⟨rfl, rfl⟩
     go_wp2_with fail
     go_ret
     exact ⟨rfl, HR.out⟩
    ·have hne := isEmpty_str h1
     by_cases h2 : 32 < tn.length
     ·have h2I : (32 : Int) < ((str tn).size : Int) := by rw [hsz]; omega
      clear hbad heq h1
      go_enter Tryz.func77, Tryz.ntmps77
      go_wp2_with fail
      refine HAT.out.mono ?_
      rintro e w' ⟨rfl, rfl⟩
      go_wp2_with fail
      go_ret
      exact ⟨rfl, HR.out⟩
     ·have h2I : ¬ (32 : Int) < ((str tn).size : Int) := by rw [hsz]; omega
      have h3 : n = tn := by
       rcases hbad with h | h | h
       ·exact absurd h h1
       ·exact absurd h h2
       ·exact h
      rw [decide_eq_true h3] at heq
      clear hbad h1 h3
      go_enter Tryz.func77, Tryz.ntmps77
      go_wp2_with fail
      refine HAT.out.mono ?_
      rintro e w' ⟨rfl, rfl⟩
      go_wp2_with fail
      go_ret
      exact ⟨rfl, HR.out⟩
   have e : (rkOf p room es).rename n tn = (rkOf p room es).whole (asPut tn fe.f (asDel n (sec RF.f es))) := by unfold DkD.rename; rw [if_neg ho]; simp only [asGet_rfs hg]; rw [if_neg hbad]
   have hne := isEmpty_str (fun h => hbad (.inl h))
   rw [decide_eq_false (fun h => hbad (.inr (.inr h)))] at heq
   have h2I : ¬ (32 : Int) < ((str tn).size : Int) := by rw [hsz]; have : ¬ 32 < tn.length := fun h => hbad (.inr (.inl h)); omega
   have HL : Hid (es.length ≤ 549755813888) := Lib.hid hl
   clear hbad hl
   have HGO := Lib.hid (rgoes_any h)
   have hmem : es[k] ∈ es := List.getElem_mem hk
   have HMEM : Hid ((n, fe) ∈ es) := Lib.hid (by rw [← hek]; exact hmem)
   have HHE := Lib.hid hek
   have HMO := fun W : World => Lib.hid (rmod_any y 2 hy (by omega) W)
   have HOK := Lib.hid h
   rw [e]
   cases hgo : p.cut.1 with
   | false =>
    have e2 := whole_done (d := rkOf p room es) (fs := asPut tn fe.f (asDel n (sec RF.f es))) (.inl hgo)
    rw [e2, hgo]
    rw [hgo] at HGO
    clear h e e2 hb hxy hx hy ek hek hgo hmem hg HR HMO
    go_enter Tryz.func77, Tryz.ntmps77
    go_wp2_with fail
    refine HAT.out.mono ?_
    rintro e w' ⟨rfl, rfl⟩
    go_wp2_with fail
    refine HGO.out.mono ?_
    rintro e w1 ⟨rfl, hD1, hF1, -⟩
    obtain ⟨A, c, hvL, hlc, hcm, hat⟩ := hD1.shape
    obtain ⟨b, hA, hbl, q0, q1, q2, g1, g2⟩ := hat k hk
    obtain ⟨x1, y1, hb1, _⟩ := hD1.blk
    have d0 := hb1.cell 0
    obtain ⟨Ax, cx, hv, hvl, _, _⟩ := (hD1.got _ HMEM.out).shape
    rw [HHE.out] at q0 q1 q2
    simp only at hv q0 q1 q2
    rw [hv] at q1
    rw [hvL, hA] at d0
    have d0' : w1.cell? ⟨g, 0, none⟩ = some (.slice (some ⟨b, 0, none⟩) es.length c) := d0
    have HF1 := Lib.hid hF1
    have HV := Lib.hid hv
    have HD1 := Lib.hid hD1
    have HVL := Lib.hid (hvL.trans (by rw [hA]))
    clear hat hb1 hD1 hF1 HGO d0 hvL hA hv
    go_wp2_with fail
    obtain ⟨wb, hwb⟩ : ∃ wb, wb = w1.alloc (.cells #[.string (str tn), .slice Ax fe.f.b.length cx, .int .i64 fe.f.safe] 128) := ⟨_, rfl⟩
    have hbb : Below w1.heap.size w1 wb := by rw [hwb]; exact (Below.refl _ w1).alloc (Nat.le_refl _) _
    have hKb : Blk wb w1.heap.size 128 #[.string (str tn), .slice Ax fe.f.b.length cx, .int .i64 fe.f.safe] := by rw [hwb]; exact Blk.new w1 128 _
    have hDb := HD1.out.below hbb
    have HDR := Lib.hid (rdrop_any hDb n (by have := HL.out; omega))
    have hws : w1.heap.size < wb.heap.size := hKb.lt
    have hgw : g < w1.heap.size := HD1.out.glt
    have HBB := Lib.hid hbb
    have HKB := Lib.hid hKb
    have HDB := Lib.hid hDb
    rw [← hwb]
    clear hwb hbb hKb hDb q0 q1 q2 d0' g1 g2
    refine HDR.out.mono ?_
    rintro e w2 ⟨⟨v, rfl⟩, vL2, hD2, hF2, hk2⟩
    have hK2 : Blk w2 w1.heap.size 128 #[.string (str tn), .slice Ax fe.f.b.length cx, .int .i64 fe.f.safe] := (hF2.block w1.heap.size hws (fun e => by omega)).trans HKB.out
    have m0 := hK2.cell 0
    have m1 := hK2.cell 1
    have m2 := hK2.cell 2
    have hG2 : Got w2 base fe.v fe.f.b := (HDB.out.got _ HMEM.out).kept (fun i hi => hF2.block i ((HDB.out.got _ HMEM.out).row.lt i hi) (fun e => by obtain ⟨x1, y1, hb1, _⟩ := HDB.out.blk; exact got_blk_ne (HDB.out.got _ HMEM.out) hb1 (by decide) (by rw [← e]; exact hi))) hF2.size
    have HPT := Lib.hid (rput_any hD2 tn fe hG2 (HDB.out.safe _ HMEM.out) (by have := asDel_length_le n es; have := HL.out; omega))
    rw [HV.out] at HPT
    have HS2 := Lib.hid (And.intro hF2 hk2)
    clear hD2 hF2 hk2 hK2 hG2 HDR
    go_wp2_with fail
    refine HPT.out.mono ?_
    rintro e w3 ⟨⟨v, rfl⟩, vL3, hD3, hF3, hk3⟩
    have HR := Lib.hid (rto_mk (fs := asPut tn fe.f (asDel n (sec RF.f es))) HF1.out hD3 (by rw [asPut_sec, asDel_sec]) (((Fr.of_below (RFoot g vL es) HBB.out).trans (HS2.out.1) (fun j hj => .inl (by rw [hj]; exact .inl rfl))).trans hF3 (fun j hj => .inl (by rw [hj]; exact .inl rfl))) (fun i hi => by
     rcases hk3 i hi with h | h | h
     ·rcases HS2.out.2 i h with h | h
      ·exact .inl h
      ·exact .inr (Nat.le_trans HBB.out.size h)
     ·exact .inr (Nat.le_trans (Nat.le_trans HBB.out.size HS2.out.1.size) h)
     ·exact .inl (.inr (.inr ⟨_, HMEM.out, by rw [HV.out]; exact h⟩))))
    clear hD3 hF3 hk3 HPT
    have HEN := Lib.hid (rend_any false w3)
    go_wp2_with fail
    refine HEN.out.mono ?_
    rintro e w' ⟨rfl, rfl⟩
    go_wp2_with fail
    go_ret
    exact ⟨rfl, HR.out⟩
   | true =>
    obtain ⟨har, hpt⟩ := cut_gone hgo
    have hyp : y = p.cut.2.1 := by rw [hpt]; exact (hxy har).2
    by_cases h2 : y % 2 = 1
    ·have e2 := whole_done (d := rkOf p room es) (fs := asPut tn fe.f (asDel n (sec RF.f es))) (.inr (by show p.cut.2.1 % 2 = 1; rw [← hyp]; exact h2))
     rw [e2, hgo]
     rw [hgo] at HGO
     rw [h2] at HMO
     clear h e e2 hb hxy hx hy ek hek hgo h2 hyp har hpt hmem hg HR
     go_enter Tryz.func77, Tryz.ntmps77
     go_wp2_with fail
     refine HAT.out.mono ?_
     rintro e w' ⟨rfl, rfl⟩
     go_wp2_with fail
     refine HGO.out.mono ?_
     rintro e w1 ⟨rfl, hD1, hF1, -⟩
     obtain ⟨A, c, hvL, hlc, hcm, hat⟩ := hD1.shape
     obtain ⟨b, hA, hbl, q0, q1, q2, g1, g2⟩ := hat k hk
     obtain ⟨x1, y1, hb1, _⟩ := hD1.blk
     have d0 := hb1.cell 0
     obtain ⟨Ax, cx, hv, hvl, _, _⟩ := (hD1.got _ HMEM.out).shape
     rw [HHE.out] at q0 q1 q2
     simp only at hv q0 q1 q2
     rw [hv] at q1
     rw [hvL, hA] at d0
     have d0' : w1.cell? ⟨g, 0, none⟩ = some (.slice (some ⟨b, 0, none⟩) es.length c) := d0
     have HF1 := Lib.hid hF1
     have HV := Lib.hid hv
     have HD1 := Lib.hid hD1
     have HVL := Lib.hid (hvL.trans (by rw [hA]))
     clear hat hb1 hD1 hF1 HGO d0 hvL hA hv
     go_wp2_with fail
     refine (HMO w1).out.mono ?_
     rintro e w' ⟨rfl, rfl⟩
     go_wp2_with fail
     obtain ⟨wb, hwb⟩ : ∃ wb, wb = w1.alloc (.cells #[.string (str tn), .slice Ax fe.f.b.length cx, .int .i64 fe.f.safe] 128) := ⟨_, rfl⟩
     have hbb : Below w1.heap.size w1 wb := by rw [hwb]; exact (Below.refl _ w1).alloc (Nat.le_refl _) _
     have hKb : Blk wb w1.heap.size 128 #[.string (str tn), .slice Ax fe.f.b.length cx, .int .i64 fe.f.safe] := by rw [hwb]; exact Blk.new w1 128 _
     have hDb := HD1.out.below hbb
     have HDR := Lib.hid (rdrop_any hDb n (by have := HL.out; omega))
     have hws : w1.heap.size < wb.heap.size := hKb.lt
     have hgw : g < w1.heap.size := HD1.out.glt
     have HBB := Lib.hid hbb
     have HKB := Lib.hid hKb
     have HDB := Lib.hid hDb
     rw [← hwb]
     clear hwb hbb hKb hDb q0 q1 q2 d0' g1 g2
     refine HDR.out.mono ?_
     rintro e w2 ⟨⟨v, rfl⟩, vL2, hD2, hF2, hk2⟩
     have hK2 : Blk w2 w1.heap.size 128 #[.string (str tn), .slice Ax fe.f.b.length cx, .int .i64 fe.f.safe] := (hF2.block w1.heap.size hws (fun e => by omega)).trans HKB.out
     have m0 := hK2.cell 0
     have m1 := hK2.cell 1
     have m2 := hK2.cell 2
     have hG2 : Got w2 base fe.v fe.f.b := (HDB.out.got _ HMEM.out).kept (fun i hi => hF2.block i ((HDB.out.got _ HMEM.out).row.lt i hi) (fun e => by obtain ⟨x1, y1, hb1, _⟩ := HDB.out.blk; exact got_blk_ne (HDB.out.got _ HMEM.out) hb1 (by decide) (by rw [← e]; exact hi))) hF2.size
     have HPT := Lib.hid (rput_any hD2 tn fe hG2 (HDB.out.safe _ HMEM.out) (by have := asDel_length_le n es; have := HL.out; omega))
     rw [HV.out] at HPT
     have HS2 := Lib.hid (And.intro hF2 hk2)
     clear hD2 hF2 hk2 hK2 hG2 HDR
     go_wp2_with fail
     refine HPT.out.mono ?_
     rintro e w3 ⟨⟨v, rfl⟩, vL3, hD3, hF3, hk3⟩
     have HR := Lib.hid (rto_mk (fs := asPut tn fe.f (asDel n (sec RF.f es))) HF1.out hD3 (by rw [asPut_sec, asDel_sec]) (((Fr.of_below (RFoot g vL es) HBB.out).trans (HS2.out.1) (fun j hj => .inl (by rw [hj]; exact .inl rfl))).trans hF3 (fun j hj => .inl (by rw [hj]; exact .inl rfl))) (fun i hi => by
      rcases hk3 i hi with h | h | h
      ·rcases HS2.out.2 i h with h | h
       ·exact .inl h
       ·exact .inr (Nat.le_trans HBB.out.size h)
      ·exact .inr (Nat.le_trans (Nat.le_trans HBB.out.size HS2.out.1.size) h)
      ·exact .inl (.inr (.inr ⟨_, HMEM.out, by rw [HV.out]; exact h⟩))))
     clear hD3 hF3 hk3 HPT
     have HEN := Lib.hid (rend_any true w3)
     go_wp2_with fail
     refine HEN.out.mono ?_
     rintro e w' ⟨rfl, rfl⟩
     go_wp2_with fail
     go_ret
     exact ⟨rfl, HR.out⟩
    ·have e2 := whole_not (d := rkOf p room es) (fs := asPut tn fe.f (asDel n (sec RF.f es))) hgo (by show p.cut.2.1 % 2 ≠ 1; rw [← hyp]; exact h2)
     rw [e2]
     rw [hgo] at HGO
     obtain ⟨y2, hy2⟩ : ∃ y2, y2 = y % 2 := ⟨_, rfl⟩
     rw [← hy2] at h2 HMO
     clear h e e2 hb hxy hx hy ek hek hgo hyp har hpt hy2 hmem hg HR
     go_enter Tryz.func77, Tryz.ntmps77
     go_wp2_with fail
     refine HAT.out.mono ?_
     rintro e w' ⟨rfl, rfl⟩
     go_wp2_with fail
     refine HGO.out.mono ?_
     rintro e w1 ⟨rfl, hD1, hF1, -⟩
     have HR := Lib.hid (rto_mk (Fr.refl _ _) hD1 rfl hF1 (fun k hk => .inl hk))
     clear hD1 hF1 HGO
     go_wp2_with fail
     refine (HMO w1).out.mono ?_
     rintro e w' ⟨rfl, rfl⟩
     have HEN := Lib.hid (rend_any true w1)
     go_wp2_with fail
     refine HEN.out.mono ?_
     rintro e w' ⟨rfl, rfl⟩
     go_wp2_with fail
     go_ret
     exact ⟨rfl, HR.out⟩
set_option maxHeartbeats 4000000 in
theorem rcut_any (h : RDiskAt w base g p room vL es) (n : Nm) (z : Int) (hz : -9223372036854775808 ≤ z ∧ z ≤ 9223372036854775807) (hl : es.length ≤ 549755813888) :
  Calls Tryz.prog 43 #[.pointer (some ⟨g, 0, none⟩), .string (str n), .int .i64 z] w fun e w' => e = .returned (.int .i64 ((rkOf p room es).cutF n z).1) ∧ RTo w base g vL es ((rkOf p room es).cutF n z).2 w' := by
 obtain ⟨x, y, hb, hxy, hx, hy⟩ := h.blk
 obtain ⟨⟨c0, c1, c2, c3, c4, c5⟩, _⟩ := rblk6 hb
 have HAT := Lib.hid (rat_any h n (by omega))
 have HR := Lib.hid (RTo.mk' h (Fr.refl (RFoot g vL es) w))
 by_cases ho : p.off = true
 ·have e : (rkOf p room es).cutF n z = (50, rkOf p room es) := by unfold DkD.cutF; rw [if_pos ho]
  rw [e]
  rw [ho] at c2
  clear h e hb hxy hx hy
  go_enter Tryz.func43, Tryz.ntmps43
  go_wp2_with fail
  refine HAT.out.mono ?_
  rintro e w' ⟨rfl, rfl⟩
  go_wp2_with fail
  go_ret
  exact ⟨rfl, HR.out⟩
 ·have ho' : p.off = false := by simpa using ho
  cases hg : asGet n es with
  | none =>
   have e : (rkOf p room es).cutF n z = (51, rkOf p room es) := by unfold DkD.cutF; rw [if_neg ho]; simp only [asGet_rf hg]
   rw [e]
   rw [ho'] at c2
   have ek := rAt_of_none hg
   rw [ek] at HAT
   clear h e hb hxy hx hy ek
   go_enter Tryz.func43, Tryz.ntmps43
   go_wp2_with fail
   refine HAT.out.mono ?_
   rintro e w' ⟨rfl, rfl⟩
   go_wp2_with fail
   go_ret
   exact ⟨rfl, HR.out⟩
  | some fe =>
   obtain ⟨k, hk, ek, hek⟩ := rAt_of_get hg
   rw [ek] at HAT
   rw [ho'] at c2
   have hkI : ¬ ((k : Int) < 0) := by omega
   obtain ⟨A, c, hvL, hlc, hcm, hat⟩ := h.shape
   obtain ⟨b, hA, hbl, q0, q1, q2, g1, g2⟩ := hat k hk
   obtain ⟨Ax, cx, hv, hvl, hvc, _⟩ := (h.got _ (List.getElem_mem hk)).shape
   rw [hek] at q1 q2 hv hvl
   simp only at hv hvl q1 q2
   rw [hv] at q1
   have HHV := Lib.hid hv
   subst hvL
   subst hA
   have c0' : w.cell? ⟨g, 0, none⟩ = some (.slice (some ⟨b, 0, none⟩) es.length c) := c0
   clear c0 hat q0 hv
   by_cases hbad : z < 0 ∨ (fe.f.b.length : Int) < z
   ·have e : (rkOf p room es).cutF n z = (1, rkOf p room es) := by unfold DkD.cutF; rw [if_neg ho]; simp only [asGet_rfs hg]; rw [if_pos hbad]
    rw [e]
    clear h e hb hxy hx hy ek hek hg
    by_cases h1 : z < 0
    ·clear hbad
     go_enter Tryz.func43, Tryz.ntmps43
     go_wp2_with fail
     refine HAT.out.mono ?_
     rintro e w' ⟨rfl, rfl⟩
     go_wp2_with fail
     go_ret
     exact ⟨rfl, HR.out⟩
    ·have h2 : (fe.f.b.length : Int) < z := by omega
     clear hbad
     go_enter Tryz.func43, Tryz.ntmps43
     go_wp2_with fail
     refine HAT.out.mono ?_
     rintro e w' ⟨rfl, rfl⟩
     go_wp2_with fail
     go_ret
     exact ⟨rfl, HR.out⟩
   have e : (rkOf p room es).cutF n z = (rkOf p room es).whole (asPut n ⟨fe.f.b.take z.toNat, min fe.f.safe z.toNat⟩ (sec RF.f es)) := by unfold DkD.cutF; rw [if_neg ho]; simp only [asGet_rfs hg]; rw [if_neg hbad]
   have h1 : ¬ z < 0 := fun h => hbad (.inl h)
   have h2 : ¬ (fe.f.b.length : Int) < z := fun h => hbad (.inr h)
   obtain ⟨m, rfl⟩ : ∃ m : Nat, z = (m : Int) := ⟨z.toNat, by omega⟩
   simp only [Int.toNat_natCast] at e
   have HL : Hid (es.length ≤ 549755813888) := Lib.hid hl
   clear hbad hl g1 g2 hbl
   have HGO := Lib.hid (rgoes_any h)
   have hmem : es[k] ∈ es := List.getElem_mem hk
   have HMEM : Hid ((n, fe) ∈ es) := Lib.hid (by rw [← hek]; exact hmem)
   have HHE := Lib.hid hek
   have HMO := fun W : World => Lib.hid (rmod_any y 2 hy (by omega) W)
   have HOK := Lib.hid h
   rw [e]
   cases hgo : p.cut.1 with
   | false =>
    have e2 := whole_done (d := rkOf p room es) (fs := asPut n ⟨fe.f.b.take m, min fe.f.safe m⟩ (sec RF.f es)) (.inl hgo)
    rw [e2, hgo]
    rw [hgo] at HGO
    clear h e e2 hb hxy hx hy ek hek hgo hmem hg HR HMO
    go_enter Tryz.func43, Tryz.ntmps43
    go_wp2_with fail
    refine HAT.out.mono ?_
    rintro e w' ⟨rfl, rfl⟩
    go_wp2_with fail
    refine HGO.out.mono ?_
    rintro e w1 ⟨rfl, hD1, hF1, -⟩
    obtain ⟨A1, c1, hvL1, hlc1, hcm1, hat1⟩ := hD1.shape
    obtain ⟨b1, hA1, hbl1, r0, r1, r2, s1, s2⟩ := hat1 k hk
    rw [hA1] at hvL1
    obtain ⟨rfl, rfl⟩ : b = b1 ∧ c = c1 := by injection hvL1 with e1 _ e2; injection e1 with e1; injection e1 with e1; exact ⟨e1, e2⟩
    obtain ⟨x1, y1, hb1, _⟩ := hD1.blk
    have d0 := hb1.cell 0
    rw [HHE.out] at r1 r2
    simp only at r1 r2
    rw [HHV.out] at r1
    have d0' : w1.cell? ⟨g, 0, none⟩ = some (.slice (some ⟨b, 0, none⟩) es.length c) := d0
    have hgb : g ≠ b := fun e => row_blk_ne hD1.own hb1 (by decide) (by rw [e]; rfl)
    have HF1 := Lib.hid hF1
    have HD1 := Lib.hid hD1
    have hcut := fun W : World => run_cut (P := Tryz.prog) Tryz.underlying27 info_u8 Ax fe.f.b.length cx 0 m (by omega) (by omega) 0 (m : Int) rfl rfl W
    clear hat1 hb1 hD1 hF1 HGO d0 hvL1 hA1 r0
    go_wp2_with fail
    refine wp_region_quiet_tail 17 (by kernel_rfl) (by kernel_rfl) ?_
    simp only [List.take_succ_cons, List.take_zero, List.drop_succ_cons, List.drop_zero]
    iterate 17 go_big_quiet_step (fail)
    refine wpQuiet_nil ?_
    rintro _ ⟨nt, rfl⟩
    go_wp2_with fail
    obtain ⟨W1, hW1⟩ : ∃ W1, W1 = (w1.drewN nt).setCell ⟨b, k * 3 + 1, none⟩ (.slice Ax m cx) := ⟨_, rfl⟩
    have hn1 : (⟨b, k * 3 + 1, none⟩ : Addr) ≠ ⟨g, 0, none⟩ := by intro e; injection e with e; exact hgb e.symm
    have hn2 : (⟨b, k * 3 + 1, none⟩ : Addr) ≠ ⟨b, k * 3 + 2, none⟩ := by intro e; injection e with _ e; omega
    have e0 : W1.cell? ⟨g, 0, none⟩ = some (.slice (some ⟨b, 0, none⟩) es.length c) := by rw [hW1, World.cell?_setCell_other (h := hn1)]; exact d0'
    have e2 : W1.cell? ⟨b, k * 3 + 2, none⟩ = some (.int .i64 fe.f.safe) := by rw [hW1, World.cell?_setCell_other (h := hn2)]; exact r2
    have t2 : W1.frozen? ⟨b, k * 3 + 2, none⟩ = false := by rw [hW1, World.frozen?_setCell]; exact s2
    have hsz : W1.heap.size = w1.heap.size := by rw [hW1]; simp
    rw [← hW1]
    have HWW := Lib.hid hW1
    clear d0' r1 r2 s1 s2 hW1 hcut hn1 hn2
    by_cases hms : (m : Int) ≤ (fe.f.safe : Int)
    ·refine wp_region_quiet_tail 17 (by kernel_rfl) (by kernel_rfl) ?_
     simp only [List.take_succ_cons, List.take_zero, List.drop_succ_cons, List.drop_zero]
     iterate 17 go_big_quiet_step (fail)
     refine wpQuiet_nil ?_
     rintro _ ⟨nt2, rfl⟩
     go_wp2_with fail
     have hmin : min fe.f.safe m = m := by omega
     have hgt : Got (w1.drewN nt) base (.slice Ax m cx) (fe.f.b.take m) := by
      have h1 := HD1.out.got _ HMEM.out
      simp only at h1
      rw [HHV.out] at h1
      exact (Got.cutTo h1 (by omega)).kept (fun _ _ => rfl) (Nat.le_refl _)
     have hset := RDiskAt.setBoth (w := w1.drewN nt) (w1 := w1) (HD1.out.drewN_ nt) hk ⟨.slice Ax m cx, ⟨fe.f.b.take m, min fe.f.safe m⟩⟩ hgt (by have := HD1.out.safe _ HMEM.out; simp only [List.length_take]; simp only at this; omega) nt2 (fun i hi => .inl (.inr (.inr ⟨_, HMEM.out, by show fe.v.ownBlock = some i; rw [HHV.out, own_len Ax fe.f.b.length m cx cx]; exact hi⟩)))
     simp only [hmin] at hset
     rw [← HWW.out] at hset
     have HR := Lib.hid (rto_mk (fs := asPut n ⟨fe.f.b.take m, min fe.f.safe m⟩ (sec RF.f es)) HF1.out hset.1 (by rw [asPut_sec, HHE.out, hmin]) (((Fr.refl _ _).drewN_ nt).trans hset.2.1 (fun j hj => .inl hj)) hset.2.2)
     clear hset hgt hmin
     have HEN := Lib.hid (rend_any false ((W1.drewN nt2).setCell ⟨b, k * 3 + 2, none⟩ (.int .i64 (m : Int))))
     go_wp2_with fail
     refine HEN.out.mono ?_
     rintro e w' ⟨rfl, rfl⟩
     go_wp2_with fail
     go_ret
     exact ⟨rfl, HR.out⟩
    ·refine wp_region_quiet_tail 17 (by kernel_rfl) (by kernel_rfl) ?_
     simp only [List.take_succ_cons, List.take_zero, List.drop_succ_cons, List.drop_zero]
     iterate 17 go_big_quiet_step (fail)
     refine wpQuiet_nil ?_
     rintro _ ⟨nt2, rfl⟩
     go_wp2_with fail
     have hmin : min fe.f.safe m = fe.f.safe := by omega
     have hgt : Got (w1.drewN nt) base (.slice Ax m cx) (fe.f.b.take m) := by
      have h1 := HD1.out.got _ HMEM.out
      simp only at h1
      rw [HHV.out] at h1
      exact (Got.cutTo h1 (by omega)).kept (fun _ _ => rfl) (Nat.le_refl _)
     have hset := RDiskAt.setBoth (w := w1.drewN nt) (w1 := w1) (HD1.out.drewN_ nt) hk ⟨.slice Ax m cx, ⟨fe.f.b.take m, min fe.f.safe m⟩⟩ hgt (by have := HD1.out.safe _ HMEM.out; simp only [List.length_take]; simp only at this; omega) nt2 (fun i hi => .inl (.inr (.inr ⟨_, HMEM.out, by show fe.v.ownBlock = some i; rw [HHV.out, own_len Ax fe.f.b.length m cx cx]; exact hi⟩)))
     simp only [hmin] at hset
     rw [← HWW.out] at hset
     have HR := Lib.hid (rto_mk (fs := asPut n ⟨fe.f.b.take m, min fe.f.safe m⟩ (sec RF.f es)) HF1.out hset.1 (by rw [asPut_sec, HHE.out, hmin]) (((Fr.refl _ _).drewN_ nt).trans hset.2.1 (fun j hj => .inl hj)) hset.2.2)
     clear hset hgt hmin
     have HEN := Lib.hid (rend_any false ((W1.drewN nt2).setCell ⟨b, k * 3 + 2, none⟩ (.int .i64 (fe.f.safe : Int))))
     go_wp2_with fail
     refine HEN.out.mono ?_
     rintro e w' ⟨rfl, rfl⟩
     go_wp2_with fail
     go_ret
     exact ⟨rfl, HR.out⟩
   | true =>
    obtain ⟨har, hpt⟩ := cut_gone hgo
    have hyp : y = p.cut.2.1 := by rw [hpt]; exact (hxy har).2
    by_cases h2 : y % 2 = 1
    ·have e2 := whole_done (d := rkOf p room es) (fs := asPut n ⟨fe.f.b.take m, min fe.f.safe m⟩ (sec RF.f es)) (.inr (by show p.cut.2.1 % 2 = 1; rw [← hyp]; exact h2))
     rw [e2, hgo]
     rw [hgo] at HGO
     rw [h2] at HMO
     clear h e e2 hb hxy hx hy ek hek hgo h2 hyp har hpt hmem hg HR
     go_enter Tryz.func43, Tryz.ntmps43
     go_wp2_with fail
     refine HAT.out.mono ?_
     rintro e w' ⟨rfl, rfl⟩
     go_wp2_with fail
     refine HGO.out.mono ?_
     rintro e w1 ⟨rfl, hD1, hF1, -⟩
     obtain ⟨A1, c1, hvL1, hlc1, hcm1, hat1⟩ := hD1.shape
     obtain ⟨b1, hA1, hbl1, r0, r1, r2, s1, s2⟩ := hat1 k hk
     rw [hA1] at hvL1
     obtain ⟨rfl, rfl⟩ : b = b1 ∧ c = c1 := by injection hvL1 with e1 _ e2; injection e1 with e1; injection e1 with e1; exact ⟨e1, e2⟩
     obtain ⟨x1, y1, hb1, _⟩ := hD1.blk
     have d0 := hb1.cell 0
     rw [HHE.out] at r1 r2
     simp only at r1 r2
     rw [HHV.out] at r1
     have d0' : w1.cell? ⟨g, 0, none⟩ = some (.slice (some ⟨b, 0, none⟩) es.length c) := d0
     have hgb : g ≠ b := fun e => row_blk_ne hD1.own hb1 (by decide) (by rw [e]; rfl)
     have HF1 := Lib.hid hF1
     have HD1 := Lib.hid hD1
     have hcut := fun W : World => run_cut (P := Tryz.prog) Tryz.underlying27 info_u8 Ax fe.f.b.length cx 0 m (by omega) (by omega) 0 (m : Int) rfl rfl W
     clear hat1 hb1 hD1 hF1 HGO d0 hvL1 hA1 r0
     go_wp2_with fail
     refine (HMO w1).out.mono ?_
     rintro e w' ⟨rfl, rfl⟩
     go_wp2_with fail
     refine wp_region_quiet_tail 17 (by kernel_rfl) (by kernel_rfl) ?_
     simp only [List.take_succ_cons, List.take_zero, List.drop_succ_cons, List.drop_zero]
     iterate 17 go_big_quiet_step (fail)
     refine wpQuiet_nil ?_
     rintro _ ⟨nt, rfl⟩
     go_wp2_with fail
     obtain ⟨W1, hW1⟩ : ∃ W1, W1 = (w1.drewN nt).setCell ⟨b, k * 3 + 1, none⟩ (.slice Ax m cx) := ⟨_, rfl⟩
     have hn1 : (⟨b, k * 3 + 1, none⟩ : Addr) ≠ ⟨g, 0, none⟩ := by intro e; injection e with e; exact hgb e.symm
     have hn2 : (⟨b, k * 3 + 1, none⟩ : Addr) ≠ ⟨b, k * 3 + 2, none⟩ := by intro e; injection e with _ e; omega
     have e0 : W1.cell? ⟨g, 0, none⟩ = some (.slice (some ⟨b, 0, none⟩) es.length c) := by rw [hW1, World.cell?_setCell_other (h := hn1)]; exact d0'
     have e2 : W1.cell? ⟨b, k * 3 + 2, none⟩ = some (.int .i64 fe.f.safe) := by rw [hW1, World.cell?_setCell_other (h := hn2)]; exact r2
     have t2 : W1.frozen? ⟨b, k * 3 + 2, none⟩ = false := by rw [hW1, World.frozen?_setCell]; exact s2
     have hsz : W1.heap.size = w1.heap.size := by rw [hW1]; simp
     rw [← hW1]
     have HWW := Lib.hid hW1
     clear d0' r1 r2 s1 s2 hW1 hcut hn1 hn2
     by_cases hms : (m : Int) ≤ (fe.f.safe : Int)
     ·refine wp_region_quiet_tail 17 (by kernel_rfl) (by kernel_rfl) ?_
      simp only [List.take_succ_cons, List.take_zero, List.drop_succ_cons, List.drop_zero]
      iterate 17 go_big_quiet_step (fail)
      refine wpQuiet_nil ?_
      rintro _ ⟨nt2, rfl⟩
      go_wp2_with fail
      have hmin : min fe.f.safe m = m := by omega
      have hgt : Got (w1.drewN nt) base (.slice Ax m cx) (fe.f.b.take m) := by
       have h1 := HD1.out.got _ HMEM.out
       simp only at h1
       rw [HHV.out] at h1
       exact (Got.cutTo h1 (by omega)).kept (fun _ _ => rfl) (Nat.le_refl _)
      have hset := RDiskAt.setBoth (w := w1.drewN nt) (w1 := w1) (HD1.out.drewN_ nt) hk ⟨.slice Ax m cx, ⟨fe.f.b.take m, min fe.f.safe m⟩⟩ hgt (by have := HD1.out.safe _ HMEM.out; simp only [List.length_take]; simp only at this; omega) nt2 (fun i hi => .inl (.inr (.inr ⟨_, HMEM.out, by show fe.v.ownBlock = some i; rw [HHV.out, own_len Ax fe.f.b.length m cx cx]; exact hi⟩)))
      simp only [hmin] at hset
      rw [← HWW.out] at hset
      have HR := Lib.hid (rto_mk (fs := asPut n ⟨fe.f.b.take m, min fe.f.safe m⟩ (sec RF.f es)) HF1.out hset.1 (by rw [asPut_sec, HHE.out, hmin]) (((Fr.refl _ _).drewN_ nt).trans hset.2.1 (fun j hj => .inl hj)) hset.2.2)
      clear hset hgt hmin
      have HEN := Lib.hid (rend_any true ((W1.drewN nt2).setCell ⟨b, k * 3 + 2, none⟩ (.int .i64 (m : Int))))
      go_wp2_with fail
      refine HEN.out.mono ?_
      rintro e w' ⟨rfl, rfl⟩
      go_wp2_with fail
      go_ret
      exact ⟨rfl, HR.out⟩
     ·refine wp_region_quiet_tail 17 (by kernel_rfl) (by kernel_rfl) ?_
      simp only [List.take_succ_cons, List.take_zero, List.drop_succ_cons, List.drop_zero]
      iterate 17 go_big_quiet_step (fail)
      refine wpQuiet_nil ?_
      rintro _ ⟨nt2, rfl⟩
      go_wp2_with fail
      have hmin : min fe.f.safe m = fe.f.safe := by omega
      have hgt : Got (w1.drewN nt) base (.slice Ax m cx) (fe.f.b.take m) := by
       have h1 := HD1.out.got _ HMEM.out
       simp only at h1
       rw [HHV.out] at h1
       exact (Got.cutTo h1 (by omega)).kept (fun _ _ => rfl) (Nat.le_refl _)
      have hset := RDiskAt.setBoth (w := w1.drewN nt) (w1 := w1) (HD1.out.drewN_ nt) hk ⟨.slice Ax m cx, ⟨fe.f.b.take m, min fe.f.safe m⟩⟩ hgt (by have := HD1.out.safe _ HMEM.out; simp only [List.length_take]; simp only at this; omega) nt2 (fun i hi => .inl (.inr (.inr ⟨_, HMEM.out, by show fe.v.ownBlock = some i; rw [HHV.out, own_len Ax fe.f.b.length m cx cx]; exact hi⟩)))
      simp only [hmin] at hset
      rw [← HWW.out] at hset
      have HR := Lib.hid (rto_mk (fs := asPut n ⟨fe.f.b.take m, min fe.f.safe m⟩ (sec RF.f es)) HF1.out hset.1 (by rw [asPut_sec, HHE.out, hmin]) (((Fr.refl _ _).drewN_ nt).trans hset.2.1 (fun j hj => .inl hj)) hset.2.2)
      clear hset hgt hmin
      have HEN := Lib.hid (rend_any true ((W1.drewN nt2).setCell ⟨b, k * 3 + 2, none⟩ (.int .i64 (fe.f.safe : Int))))
      go_wp2_with fail
      refine HEN.out.mono ?_
      rintro e w' ⟨rfl, rfl⟩
      go_wp2_with fail
      go_ret
      exact ⟨rfl, HR.out⟩
    ·have e2 := whole_not (d := rkOf p room es) (fs := asPut n ⟨fe.f.b.take m, min fe.f.safe m⟩ (sec RF.f es)) hgo (by show p.cut.2.1 % 2 ≠ 1; rw [← hyp]; exact h2)
     rw [e2]
     rw [hgo] at HGO
     obtain ⟨y2, hy2⟩ : ∃ y2, y2 = y % 2 := ⟨_, rfl⟩
     rw [← hy2] at h2 HMO
     clear h e e2 hb hxy hx hy ek hek hgo hyp har hpt hy2 hmem hg HR
     go_enter Tryz.func43, Tryz.ntmps43
     go_wp2_with fail
     refine HAT.out.mono ?_
     rintro e w' ⟨rfl, rfl⟩
     go_wp2_with fail
     refine HGO.out.mono ?_
     rintro e w1 ⟨rfl, hD1, hF1, -⟩
     have HR := Lib.hid (rto_mk (Fr.refl _ _) hD1 rfl hF1 (fun k hk => .inl hk))
     clear hD1 hF1 HGO
     go_wp2_with fail
     refine (HMO w1).out.mono ?_
     rintro e w' ⟨rfl, rfl⟩
     have HEN := Lib.hid (rend_any true w1)
     go_wp2_with fail
     refine HEN.out.mono ?_
     rintro e w' ⟨rfl, rfl⟩
     go_wp2_with fail
     go_ret
     exact ⟨rfl, HR.out⟩
end
end Go.Proofs.YteehkcpokgeipaaGreatDoor
set_option linter.unusedVariables false
set_option linter.unusedSimpArgs false
namespace Go.Proofs.YteehkcpokgeipaaGreatDoor
open Go.RowKit Go.Maps Go.Sort Oct
section
variable {w w1 w2 : World} {base g : Nat} {p p' : PWD} {room : Int} {vL vL' : Value} {es es' : List (Nm × RF)}
set_option maxHeartbeats 2000000 in
theorem rdread_any (h : RDiskAt w base g p room vL es) (n : Nm) (hl : es.length ≤ 1099511627776) (hfe : ∀ q ∈ es, q.2.f.b.length ≤ 549755813888) :
  Calls Tryz.prog 74 #[.pointer (some ⟨g, 0, none⟩), .string (str n)] w fun e w' => ∃ v, e = .returned (.tuple #[v, .int .i64 ((rkOf p room es).read n).2]) ∧ Got w' w.heap.size v ((rkOf p room es).read n).1 ∧ Below w.heap.size w w' := by
 obtain ⟨x, y, hb, hxy, hx, hy⟩ := h.blk
 obtain ⟨⟨c0, c1, c2, c3, c4, c5⟩, _⟩ := rblk6 hb
 have HAT := Lib.hid (rat_any h n (by omega))
 by_cases ho : p.off = true
 ·have e : (rkOf p room es).read n = ([], 50) := by unfold DkD.read; rw [if_pos ho]
  rw [e]
  rw [ho] at c2
  clear h e hb hxy hx hy hfe
  go_enter Tryz.func74, Tryz.ntmps74
  go_wp2_with fail
  refine HAT.out.mono ?_
  rintro e w' ⟨rfl, rfl⟩
  go_wp2_with fail
  go_ret2
  exact ⟨_, rfl, .of_own (Own.nil _ _ _), Below.refl _ _⟩
 ·have ho' : p.off = false := by simpa using ho
  cases hg : asGet n es with
  | none =>
   have e : (rkOf p room es).read n = ([], 51) := by unfold DkD.read; rw [if_neg ho]; simp only [asGet_rf hg]
   rw [e]
   rw [ho'] at c2
   have ek := rAt_of_none hg
   rw [ek] at HAT
   clear h e hb hxy hx hy ek hfe
   go_enter Tryz.func74, Tryz.ntmps74
   go_wp2_with fail
   refine HAT.out.mono ?_
   rintro e w' ⟨rfl, rfl⟩
   go_wp2_with fail
   go_ret2
   exact ⟨_, rfl, .of_own (Own.nil _ _ _), Below.refl _ _⟩
  | some fe =>
   obtain ⟨k, hk, ek, hek⟩ := rAt_of_get hg
   have e : (rkOf p room es).read n = (fe.f.b, 0) := by unfold DkD.read; rw [if_neg ho]; simp only [asGet_rfs hg]
   rw [e]
   rw [ek] at HAT
   rw [ho'] at c2
   have hkI : ¬ ((k : Int) < 0) := by omega
   have hkL : (k : Int) < (es.length : Int) := by omega
   have hmem : (n, fe) ∈ es := by rw [← hek]; exact List.getElem_mem hk
   obtain ⟨A, c, rfl, hlc, hcm, hat⟩ := h.shape
   obtain ⟨b, rfl, hbl, q0, q1, q2, -, -⟩ := hat k hk
   obtain ⟨Ax, cx, hv, hvl, hvc, hvr⟩ := (h.got _ hmem).shape
   have hfl := hfe _ hmem
   have hgl := h.glt
   rw [hek] at q1
   simp only at hv hvl hvr q1 hfl
   rw [hv] at q1
   have HN := Lib.hid (own_nothing w w.heap.size 5 (Nat.le_refl _))
   have HRX := Lib.hid (hvr.alloc (Nat.le_refl _) (.cells #[] 5))
   have hbb := (Below.refl w.heap.size w).alloc (Nat.le_refl _) (.cells #[] 5)
   have HB := Lib.hid hbb
   clear h e hb hxy hx hy ek hfe hat hvr hv q0 q2 hek hmem hg hbb
   go_enter Tryz.func74, Tryz.ntmps74
   go_wp2_with fail
   refine HAT.out.mono ?_
   rintro e w' ⟨rfl, rfl⟩
   go_wp2_with (at_builtin; go_must (refine wpList_append_any rfl (.tmp 16) (.tmp 24) 27 rfl w.heap.size 5 (.int .u8 0) 1 Tryz.underlying27 info_u8 rfl _ _ rfl HN.out w.heap.size Ax fe.f.b.length cx (cells fe.f.b) rfl (cells_length _).symm HRX.out (bytes_oneCell _) (by unfold maxLen; simp; omega) (by simp; omega) (by simp) ?_; intro v2 w2 hv2 hg2 _; have hv2' : Bs w2 w.heap.size v2 fe.f.b := hv2; obtain ⟨Av2, cv2, e2, _⟩ := bs_shape hv2'; subst e2; have HV2 := Lib.hid hv2'; have HG2 := Lib.hid hg2; clear hv2 hv2' hg2))
   go_ret2
   exact ⟨_, rfl, .of_own HV2.out, HB.out.grown HG2.out (by simp) (fun j hj => (Own.lt HN.out j hj).1)⟩
end
end Go.Proofs.YteehkcpokgeipaaGreatDoor
