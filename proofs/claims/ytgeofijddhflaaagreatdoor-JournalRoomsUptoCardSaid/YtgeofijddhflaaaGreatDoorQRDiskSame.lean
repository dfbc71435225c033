/- Two rows of files that are one (pavaneref21.Same). Condition: they can be read, and hold the same. -/
import Derived.Test.YtgeofijddhflaaaGreatDoorQRDiskRm
import Derived.Test.YtgeofijddhflaaaGreatDoorQDiskApp
import Derived.Test.YtgeofijddhflaaaGreatDoorQHeld
import Derived.Test.YtgeofijddhflaaaGreatDoorQKeepRPieces
import Derived.Deep.DeepCutAuto
set_option linter.unusedVariables false
set_option linter.unusedSimpArgs false
namespace Go.Proofs.YtgeofijddhflaaaGreatDoor
open Go.RowKit Go.Maps Go.Sort Oct
def bootAt (keep : List Int) (i : Nat) (f : FD) : FD :=
 ⟨f.b.take (f.safe + if i < keep.length then (keep.getD i 0 % ((f.b.length : Int) - f.safe + 1)).toNat else 0), f.safe + if i < keep.length then (keep.getD i 0 % ((f.b.length : Int) - f.safe + 1)).toNat else 0⟩
def bootK (keep : List Int) (k : Nat) (fs : List (Nm × FD)) : List (Nm × FD) := fs.mapIdx fun i q => if i < k then (q.1, bootAt keep i q.2) else q
def DkD.boot (d : DkD) (keep : List Int) : DkD := ⟨⟨false, false, 0, 0⟩, d.room, bootK keep d.fs.length d.fs⟩
theorem bootK_zero (keep : List Int) (fs : List (Nm × FD)) : bootK keep 0 fs = fs := by
 unfold bootK
 refine List.ext_getElem (by simp) fun i h1 h2 => ?_
 rw [List.getElem_mapIdx, if_neg (by omega)]
theorem bootK_length (keep : List Int) (k : Nat) (fs : List (Nm × FD)) : (bootK keep k fs).length = fs.length := by unfold bootK; simp
theorem bootK_get (keep : List Int) {k : Nat} {fs : List (Nm × FD)} (hk : k < fs.length) (h : k < (bootK keep k fs).length) : (bootK keep k fs)[k] = fs[k] := by
 have h1 : ∀ h', (fs.mapIdx fun i q => if i < k then (q.1, bootAt keep i q.2) else q)[k]'h' = fs[k] := fun h' => by rw [List.getElem_mapIdx, if_neg (by omega)]
 exact h1 _
theorem bootK_step (keep : List Int) {k : Nat} {fs : List (Nm × FD)} (hk : k < fs.length) : (bootK keep k fs).set k (fs[k].1, bootAt keep k fs[k].2) = bootK keep (k + 1) fs := by
 unfold bootK
 refine List.ext_getElem (by simp) fun i h1 h2 => ?_
 rw [List.getElem_set, List.getElem_mapIdx, List.getElem_mapIdx]
 by_cases he : k = i
 ·subst he
  rw [if_pos rfl, if_pos (by omega)]
 ·rw [if_neg he]
  by_cases hlt : i < k
  ·rw [if_pos hlt, if_pos (by omega)]
  ·rw [if_neg hlt, if_neg (by omega)]
theorem bootAt_safe (keep : List Int) (i : Nat) (f : FD) (h : f.safe ≤ f.b.length) : (bootAt keep i f).safe ≤ f.b.length ∧ (bootAt keep i f).b = f.b.take (bootAt keep i f).safe := by
 refine ⟨?_, rfl⟩
 unfold bootAt
 show f.safe + _ ≤ _
 split
 ·have h1 := Int.emod_lt_of_pos (keep.getD i 0) (show (0 : Int) < (f.b.length : Int) - f.safe + 1 by omega)
  have h2 := Int.emod_nonneg (keep.getD i 0) (show ((f.b.length : Int) - f.safe + 1) ≠ 0 by omega)
  omega
 ·omega
section
variable {w w1 w2 wr : World} {base g : Nat} {p p' : PWD} {room : Int} {vL vL' : Value} {es es' : List (Nm × RF)}
theorem sec_set {α β : Type} (f : α → β) (l : List (Nm × α)) (k : Nat) (q : Nm × α) : sec f (l.set k q) = (sec f l).set k (q.1, f q.2) := by simp only [sec, List.map_set]
theorem RDiskAt.boot1 {b c L : Nat} (hL : es.length = L) (h : RDiskAt wr base g p room (.slice (some ⟨b, 0, none⟩) L c) es) {k : Nat} (hk : k < es.length) (s : Nat) (hs : s ≤ es[k].2.f.b.length) (nt : Nat) :
  RDiskAt ((wr.drewN nt).setCell ⟨b, k * 3 + 2, none⟩ (.int .i64 s)) base g p room (.slice (some ⟨b, 0, none⟩) L c) (es.set k (es[k].1, ⟨es[k].2.v, ⟨es[k].2.f.b, s⟩⟩)) ∧ Fr (RFoot g (.slice (some ⟨b, 0, none⟩) L c) es) wr ((wr.drewN nt).setCell ⟨b, k * 3 + 2, none⟩ (.int .i64 s)) ∧
  (∀ i, RFoot g (.slice (some ⟨b, 0, none⟩) L c) (es.set k (es[k].1, ⟨es[k].2.v, ⟨es[k].2.f.b, s⟩⟩)) i → RFoot g (.slice (some ⟨b, 0, none⟩) L c) es i ∨ wr.heap.size ≤ i) := by
 subst hL
 have hm : es[k] ∈ es := List.getElem_mem hk
 have h1 := (h.drewN_ nt).setFile (w1 := wr) hk (j := 2) (by omega) (.int .i64 (s : Int)) ⟨es[k].2.v, ⟨es[k].2.f.b, s⟩⟩ (by simp [rfOne]) ((h.got _ hm).kept (fun _ _ => rfl) (Nat.le_refl _)) hs (fun i hi => .inl (.inr (.inr ⟨_, hm, hi⟩)))
 rw [asPut_set h.rising hk] at h1
 exact ⟨h1.1, ((Fr.refl _ _).drewN_ nt).trans h1.2.1 (fun j hj => .inl hj), h1.2.2⟩
theorem RDiskAt.boot2 {b c L : Nat} (hL : es.length = L) (h : RDiskAt wr base g p room (.slice (some ⟨b, 0, none⟩) L c) es) (hb : Below wr.heap.size wr w2) {k : Nat} (hk : k < es.length) {v : Value} {l : List UInt8} (hs : es[k].2.f.safe ≤ l.length) (hg : Got w2 wr.heap.size v l) :
  RDiskAt (w2.setCell ⟨b, k * 3 + 1, none⟩ v) base g p room (.slice (some ⟨b, 0, none⟩) L c) (es.set k (es[k].1, ⟨v, ⟨l, es[k].2.f.safe⟩⟩)) ∧ Fr (RFoot g (.slice (some ⟨b, 0, none⟩) L c) es) wr (w2.setCell ⟨b, k * 3 + 1, none⟩ v) ∧
  (∀ i, RFoot g (.slice (some ⟨b, 0, none⟩) L c) (es.set k (es[k].1, ⟨v, ⟨l, es[k].2.f.safe⟩⟩)) i → RFoot g (.slice (some ⟨b, 0, none⟩) L c) es i ∨ wr.heap.size ≤ i) := by
 subst hL
 have hbw : base ≤ wr.heap.size := by have := h.low; have := h.glt; omega
 have h1 := (h.below hb).setFile (w1 := wr) hk (j := 1) (by omega) v ⟨v, ⟨l, es[k].2.f.safe⟩⟩ (by simp [rfOne]) (hg.mono hbw) hs (fun i hi => .inr (hg.row.base i hi))
 rw [asPut_set h.rising hk] at h1
 exact ⟨h1.1, (Fr.of_below _ hb).trans h1.2.1 (fun j hj => .inl hj), h1.2.2⟩
end
end Go.Proofs.YtgeofijddhflaaaGreatDoor
set_option linter.unusedVariables false
set_option linter.unusedSimpArgs false
namespace Go.Proofs.YtgeofijddhflaaaGreatDoor
open Go.RowKit Go.Maps Go.Sort Oct
structure FRd (w : World) (A : Option Addr) (es : List (Nm × RF)) : Prop where
 at_ : ∀ k, (hk : k < es.length) → ∃ b, A = some ⟨b, 0, none⟩ ∧ b < w.heap.size ∧ w.cell? ⟨b, k * 3, none⟩ = some (.string (str es[k].1)) ∧ w.cell? ⟨b, k * 3 + 1, none⟩ = some es[k].2.v ∧ w.cell? ⟨b, k * 3 + 2, none⟩ = some (.int .i64 es[k].2.f.safe)
 bytes : ∀ q ∈ es, ∃ Ax cx, q.2.v = .slice Ax q.2.f.b.length cx ∧ Rd w w.heap.size Ax (cells q.2.f.b)
theorem FRd.below {w w' : World} {A : Option Addr} {es : List (Nm × RF)} (h : FRd w A es) (hb : Below w.heap.size w w') : FRd w' A es := by
 refine ⟨fun k hk => ?_, fun q hq => ?_⟩
 ·obtain ⟨b, h1, h2, h3, h4, h5⟩ := h.at_ k hk
  have := hb.size
  exact ⟨b, h1, by omega, (hb.cell (p := ⟨b, k * 3, none⟩) h2).trans h3, (hb.cell (p := ⟨b, k * 3 + 1, none⟩) h2).trans h4, (hb.cell (p := ⟨b, k * 3 + 2, none⟩) h2).trans h5⟩
 ·obtain ⟨Ax, cx, h1, h2⟩ := h.bytes q hq
  exact ⟨Ax, cx, h1, (h2.below hb).more hb.size⟩
set_option maxHeartbeats 2000000 in
set_option maxRecDepth 100000 in
theorem rsame_any (A B : Option Addr) (es es2 : List (Nm × RF)) (c d : Nat) (w : World) (ha : FRd w A es) (hb : FRd w B es2) (he : sec RF.f es = sec RF.f es2) (hl : es.length ≤ 140737488351232) (hfe : ∀ q ∈ es, q.2.f.b.length ≤ 140737488351232) :
  Calls Tryz.prog 26 #[.slice A es.length c, .slice B es2.length d] w fun e w' => e = .returned (.bool true) ∧ Below w.heap.size w w' := by
 have hlen : es2.length = es.length := by have := congrArg List.length he; simpa [sec] using this.symm
 rw [hlen]
 have HA := Lib.hid ha
 have HB := Lib.hid hb
 have HE := Lib.hid he
 have HLEN := Lib.hid hlen
 have HFE := Lib.hid hfe
 clear ha hb he hlen hfe
 go_enter Tryz.func26, Tryz.ntmps26
 go_wp2_with fail
 go_loopw [5] (fun n wr => ∃ k : Nat, k ≤ es.length ∧ n = .int .i64 k ∧ Hid (Below w.heap.size w wr)) (fun n _ => es.length - (intOf n).toNat)
 case atStart => exact ⟨0, by omega, rfl, Lib.hid (Below.refl _ _)⟩
 case round =>
  obtain ⟨k, hk, rfl, hb⟩ := hrel
  by_cases hlt : k < es.length
  ·have hlt2 : k < es2.length := by rw [HLEN.out]; exact hlt
   obtain ⟨g, rfl, ag, a0, a1, a2⟩ := (HA.out.below hb.out).at_ k hlt
   obtain ⟨f, rfl, bg, b0, b1, b2⟩ := (HB.out.below hb.out).at_ k hlt2
   obtain ⟨Ax, cx, hv1, hr1⟩ := (HA.out.below hb.out).bytes _ (List.getElem_mem hlt)
   obtain ⟨Bx, dx, hv2, hr2⟩ := (HB.out.below hb.out).bytes _ (List.getElem_mem hlt2)
   have hfl := HFE.out _ (List.getElem_mem hlt)
   have hek : (es[k].1, es[k].2.f) = (es2[k].1, es2[k].2.f) := by
    have h1 : (sec RF.f es)[k]'(by rw [sec_length]; exact hlt) = (es[k].1, es[k].2.f) := by simp [sec]
    have h2 : (sec RF.f es2)[k]'(by rw [sec_length]; exact hlt2) = (es2[k].1, es2[k].2.f) := by simp [sec]
    rw [← h1, ← h2]
    exact List.getElem_of_eq HE.out _
   rw [hv1] at a1
   rw [hv2] at b1
   injection hek with e1 e2
   rw [← e1] at b0
   rw [← e2] at b1 b2 hr2
   generalize es[k].1 = nm at a0 b0
   generalize es[k].2.f = F at a1 a2 b1 b2 hr1 hr2 hfl
   obtain ⟨fb, fs⟩ := F
   simp only at a1 a2 b1 b2 hr1 hr2 hfl
   have q1 := fun n => str_of cx (hr1.drewN n)
   have q2 := fun n => str_of dx (hr2.drewN n)
   have hltI : (k : Int) < es.length := by omega
   clear HA HB hr1 hr2 hv1 hv2 e1 e2 hlt2
   go_wp2_with fail
   go_quiet (fail)
   go_wp2_with fail
   go_roundw
   case rel => exact ⟨k + 1, by omega, by go_num, Lib.hid (below_drewN hb.out _)⟩
   case measure => simp [intOf]; omega
  ·clear HA HB
   go_wp2_with fail
   go_ret
   exact ⟨rfl, hb.out⟩
end Go.Proofs.YtgeofijddhflaaaGreatDoor
