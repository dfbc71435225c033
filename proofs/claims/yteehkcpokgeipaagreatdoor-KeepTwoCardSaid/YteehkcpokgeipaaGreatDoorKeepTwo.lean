/- pavanelaw23.KeepTwo answers true. Condition: the snapshots can be read. -/
import Derived.Test.YteehkcpokgeipaaGreatDoorKeepTwoR
import Derived.Test.YteehkcpokgeipaaGreatDoorKeepRPieces
import Derived.Test.YteehkcpokgeipaaGreatDoorOpenP
import Derived.Test.YteehkcpokgeipaaGreatDoorCalcFacts
set_option linter.unusedVariables false
namespace Go.Proofs.YteehkcpokgeipaaGreatDoor
open Go.RowKit Go.Maps Go.Sort Go.Shelf Oct

/-- A snapshot, and where its rows lie. -/
structure SnapD where
  i : Int
  t : Int
  Av : Option Addr
  z : List Int
  cv : Nat
  Ad : Option Addr
  l : List UInt8
  cd : Nat
def SnapD.cs (s : SnapD) : List Value := [.int .i64 s.i, .int .i64 s.t, .slice s.Av s.z.length s.cv, .slice s.Ad s.l.length s.cd]
structure SnapD.Ok (w : World) (B : Nat) (s : SnapD) : Prop where
  v : Rd w B s.Av (s.z.map (Value.int .i64))
  d : Rd w B s.Ad (cells s.l)
  z : ∀ n ∈ s.z, -9223372036854775808 ≤ n ∧ n ≤ 9223372036854775807
  zl : s.z.length ≤ 140737488351232
  dl : s.l.length ≤ 4611686018427387904
  i : -9223372036854775808 ≤ s.i ∧ s.i ≤ 9223372036854775807
theorem cs_at (ss : List SnapD) {k : Nat} (hk : k < ss.length) {j : Nat} (hj : j < 4) : (ss.flatMap SnapD.cs)[k * 4 + j]? = (ss[k].cs)[j]? := by
  induction ss generalizing k with
  | nil => simp at hk
  | cons x r ih =>
    rw [List.flatMap_cons]
    cases k with
    | zero => rw [List.getElem?_append_left (by simp [SnapD.cs]; omega)]; simp
    | succ k =>
      rw [List.getElem?_append_right (by simp [SnapD.cs]; omega)]
      have : (k + 1) * 4 + j - x.cs.length = k * 4 + j := by simp [SnapD.cs]; omega
      rw [this, ih (by simpa using hk)]
      rfl
theorem cs_len (ss : List SnapD) : (ss.flatMap SnapD.cs).length = 4 * ss.length := by
  induction ss with
  | nil => rfl
  | cons x r ih => rw [List.flatMap_cons, List.length_append, ih]; simp [SnapD.cs]; omega
set_option maxHeartbeats 4000000 in
set_option maxRecDepth 100000 in
theorem keepTwo_any (A : Option Addr) (ss : List SnapD) (c : Nat) (w : World) (hr : Rd w w.heap.size A (ss.flatMap SnapD.cs)) (hs : ∀ s ∈ ss, s.Ok w w.heap.size) (hF : Facts w) (hA : 0 < ss.length → ∀ ad, A = some ad → ad = ⟨ad.block, ad.off, none⟩) (hsl : ss.length ≤ 4611686018427387904) :
    Calls Tryz.prog 3 #[.slice A ss.length c] w fun e w' => e = .returned (.bool true) ∧ Below w.heap.size w w' := by
  have HR := Lib.hid hr
  have HS := Lib.hid hs
  have HFA := Lib.hid hF
  have HSM := Lib.hid (keepSmall w)
  have HA := Lib.hid hA
  clear hr hs hF hA
  go_enter Tryz.func3, Tryz.ntmps3
  go_wp2_with fail
  refine HSM.out.mono ?_
  rintro e w1 ⟨rfl, hb1⟩
  have hs1 := hb1.size
  have HB1 := Lib.hid hb1
  clear hb1 HSM
  go_wp2_with fail
  refine (dnew_any 16777216 (by omega) w1).mono ?_
  rintro e w2 ⟨rfl, hD, hb2⟩
  have HB2 := Lib.hid (HB1.out.trans (hb2.mono hs1))
  have HD := Lib.hid hD
  have hs2 := HB2.out.size
  have HLT := Lib.hid hD.lt
  have h12 := hb2.size
  clear hb2 hD
  go_wp2_with fail
  go_loopw [5, 6, 7] (fun n _ _ wq => ∃ (k : Nat) (d : DkD), k ≤ ss.length ∧ n = .int .i64 k ∧ Hid (DiskTo w2 w1.heap.size (w1.heap.size + 1) w1.heap.size [] d wq) ∧ Hid (TwoD d)) (fun n _ _ _ => ss.length - (intOf n).toNat)
  case atStart => exact ⟨0, _, by omega, rfl, Lib.hid (DiskTo.mk' HD.out (Fr.refl _ _)), Lib.hid ⟨⟨rfl, rfl⟩, rfl, by simp, (fun q hq => by cases hq), (fun q hq => by cases hq), List.Pairwise.nil⟩⟩
  case round =>
    obtain ⟨k, d, hk, rfl, HT, HTW⟩ := hrel
    obtain ⟨esk, hDk, hfs, hFr, hft⟩ := HT.out
    obtain ⟨pw, rm, fs⟩ := d
    simp only at hfs hDk
    subst hfs
    have hbw : Below w.heap.size w wr := (HB2.out).trans (hFr.below hs2 (fun j hj => by have := (HLT.out j hj).1; omega))
    by_cases hlt : k < ss.length
    · by_cases h20 : k < 20
      · have hso := HS.out _ (List.getElem_mem hlt)
        have hrw := HR.out.below hbw
        obtain ⟨ad, rfl, hab, hce⟩ := hrw (by rw [cs_len]; omega)
        have hsp := HA.out (by omega) ad rfl
        have q0 := hce (k * 4 + 0) (.int .i64 ss[k].i) (by rw [cs_at ss hlt (by omega)]; rfl)
        have q1 := hce (k * 4 + 1) (.int .i64 ss[k].t) (by rw [cs_at ss hlt (by omega)]; rfl)
        have q2 := hce (k * 4 + 2) (.slice ss[k].Av ss[k].z.length ss[k].cv) (by rw [cs_at ss hlt (by omega)]; rfl)
        have q3 := hce (k * 4 + 3) (.slice ss[k].Ad ss[k].l.length ss[k].cd) (by rw [cs_at ss hlt (by omega)]; rfl)
        obtain ⟨s, hsk⟩ : ∃ s, s = ss[k] := ⟨_, rfl⟩
        rw [← hsk] at q0 q1 q2 q3 hso
        obtain ⟨ab, ao, af⟩ := ad
        simp only at hsp
        obtain rfl : af = none := by injection hsp
        have hadd : ∀ j : Nat, (⟨ab, ao, none⟩ : Addr).add j = ⟨ab, ao + j, none⟩ := fun j => by
          unfold Addr.add
          by_cases h : j = 0
          · subst h; rfl
          · simp [h]
        rw [hadd] at q0 q1 q2 q3
        rw [← Nat.add_assoc] at q0 q1 q2 q3
        rw [Nat.add_zero] at q0
        have HSO := Lib.hid hso
        have hds := Lib.hid hDk
        have HBW := Lib.hid hbw
        have HFR := Lib.hid (And.intro hFr hft)
        clear hadd hce hsk hso hrw hsp hDk hbw hFr hft HT
        by_cases hbig : (65536 : Int) < (s.l.length : Int)
        · go_wp2_with fail
          go_ret
          exact ⟨rfl, HBW.out⟩
        · have hss := snap_small (i := s.i) (t := s.t) HSO.out.z (show s.l.length ≤ 65536 by omega)
          have hwr := HBW.out.size
          have hsz2 := HFR.out.1.size
          have hok : DOk 2 (dkOf pw rm esk) := ⟨by have h1 := sizes_each HTW.out.sz; have h2 := HTW.out.len; have h3 := HTW.out.room; simp only at h1 h2 h3; show sizes (sec FE.f esk) ≤ rm; omega, by have h3 := HTW.out.room; simp only at h3; show rm ≤ _; omega, HTW.out.len, fun q hq => by
            obtain ⟨n, hn, e⟩ := HTW.out.nm q hq
            rw [e]
            have := sName_len n (by omega)
            exact ⟨by simp [sName], by omega⟩⟩
          have HSV := Lib.hid (save_any hds.out hok (by omega) s.i s.t s.Av s.Ad s.z s.l _ s.cv _ s.cd rfl rfl ((HSO.out.v.below HBW.out).more hwr) ((HSO.out.d.below HBW.out).more hwr) HSO.out.z HSO.out.zl HSO.out.dl HSO.out.i (by omega) (by omega) (fun W hb => HFA.out.below (HBW.out.trans (hb.mono hs1))))
          unfold snapV at HSV
          have hST := save_two HTW.out (i := s.i) (E := snapE s.i s.t s.z s.l) (rows := fileL (snapS s.i s.t s.z s.l)) (fun h0 => by
            by_cases hm : mayB s.i s.t s.z s.l = true
            · exact ⟨(may_len hm).2.2.2.1, file_small hss⟩
            · unfold snapE at h0
              rw [if_neg hm] at h0
              cases h0) (by unfold snapE; split <;> simp)
          obtain ⟨R, hR⟩ : ∃ R, R = saveD (dkOf pw rm esk) s.i (snapE s.i s.t s.z s.l) (fileL (snapS s.i s.t s.z s.l)) := ⟨_, rfl⟩
          change ((saveD (dkOf pw rm esk) s.i (snapE s.i s.t s.z s.l) (fileL (snapS s.i s.t s.z s.l))).1 = 0 ∧ _) ∨ _ at hST
          rw [← hR] at hST HSV
          have HST := Lib.hid hST
          clear hok hss hR hST
          go_wp2_with fail
          refine HSV.out.mono ?_
          rintro e w3 ⟨rfl, hT⟩
          have HT3 := Lib.hid (DiskTo.step2 HFR.out.1 HFR.out.2 hT)
          obtain ⟨es3, hD3, hfs3, hFr3, hft3⟩ := HT3.out
          have hl3 : es3.length = R.2.fs.length := by rw [← hfs3]; simp
          have hw3 := hFr3.size
          have HT2 := Lib.hid (show TwoD R.2 by
            rcases HST.out with h | h
            · exact h.2.1
            · rw [h.2]; exact HTW.out)
          have HNM := Lib.hid (names_any hD3 (by have := HT2.out.len; omega))
          have HL3 := Lib.hid hl3
          have hl2 : es3.length ≤ 2 := by have := HT2.out.len; omega
          clear hT HSV q0 q1 q2 q3 hD3 hfs3 hFr3 hft3 hl3
          go_wp2_with fail
          refine HNM.out.mono ?_
          rintro e w4 ⟨v4, rfl, hv4, hb4⟩
          obtain ⟨A4, c4, rfl, _, _, _⟩ := hv4.shape
          rw [List.length_map]
          have HT4 := Lib.hid (show DiskTo w2 w1.heap.size (w1.heap.size + 1) w1.heap.size [] R.2 w4 by
            obtain ⟨es5, hD5, hfs5, hFr5, hft5⟩ := HT3.out
            exact ⟨es5, hD5.below hb4, hfs5, hFr5.trans (Fr.of_below (fun _ => False) hb4) (fun j hj => hj.elim), hft5⟩)
          clear hv4 hb4 HNM
          rcases HST.out with h | h
          · have h1 : 1 ≤ es3.length := by rw [HL3.out]; exact h.2.2
            rw [h.1]
            clear h
            go_wp2_with fail
            · rename_i h0
              subst h0
              simp at h1
            · rename_i h0
              rcases h0 with h0 | h0
              · have : (es3.length : Int) = 0 := by simpa using h0
                omega
              · omega
            go_roundw
            case rel => exact ⟨k + 1, R.2, by omega, by go_num, HT4, HT2⟩
            case measure => simp [intOf]; omega
          · rw [h.1]
            clear h
            go_wp2_with fail
            go_roundw
            case rel => exact ⟨k + 1, R.2, by omega, by go_num, HT4, HT2⟩
            case measure => simp [intOf]; omega
      · have HBW := Lib.hid hbw
        clear hDk hFr hft HT hbw
        go_wp2_with fail
        go_ret
        exact ⟨rfl, HBW.out⟩
    · have HBW := Lib.hid hbw
      clear hDk hFr hft HT hbw
      go_wp2_with fail
      go_ret
      exact ⟨rfl, HBW.out⟩
end Go.Proofs.YteehkcpokgeipaaGreatDoor

/- Opening an argument that is a slice of snapshots. No condition. -/
set_option linter.unusedVariables false
namespace Go.Proofs.YteehkcpokgeipaaGreatDoor
open Go.ChangeShapes Go.WideShapes Go.ChangeAt Go.RowKit Go.Joins Go.Deep Oct

/-- Snapshots that came in. -/
structure InSnaps (w : World) (A : Option Addr) (ss : List SnapD) (c : Nat) : Prop where
  rd : Rd w w.heap.size A (ss.flatMap SnapD.cs)
  ok : ∀ s ∈ ss, s.Ok w w.heap.size
  plain : 0 < ss.length → ∀ ad, A = some ad → ad = ⟨ad.block, ad.off, none⟩
  le : ss.length ≤ 4611686018427387904
def SnGood (w : World) (ad : Addr) (k : Nat) (s : SnapD) : Prop :=
  (∀ j, (hj : j < 4) → w.cell? ((ad.add (k * 4)).add j) = s.cs[j]?) ∧ s.Ok w w.heap.size
theorem plain_of_cell {w : World} {x : Addr} {v : Value} (h0 : w.cell? x = some v) : x = ⟨x.block, x.off, none⟩ := by
  obtain ⟨b, o, s⟩ := x
  cases s with
  | none => rfl
  | some s =>
    exfalso
    unfold World.cell? at h0
    split at h0 <;> simp at h0

section
variable {H : Type} {enc : TypeId × Value → H} {P : Program} {W : World} {base : Nat}
theorem open_snaps {t e ei q : TypeId} {f0 f1 f2 f3 : Field} (ht : P.underlying t = some (.slice e)) (he : P.underlying e = some (.struct #[f0, f1, f2, f3])) (hone : oneCellFields P #[f0, f1, f2, f3] = true) (hC : P.cellsOf e = 4) (be : P.bytesOf e = 64)
    (u0 : P.underlying f0.type = some (.int .i64)) (u1 : P.underlying f1.type = some (.int .i64)) (u2 : P.underlying f2.type = some (.slice ei)) (ue : P.underlying ei = some (.int .i64)) (ce : P.cellsOf ei = 1) (bei : P.bytesOf ei = 8) (u3 : P.underlying f3.type = some (.slice q)) (uq : P.underlying q = some (.int .u8)) (cq : P.cellsOf q = 1) (bq : P.bytesOf q = 1)
    {v : Value} {d : DataW H} {p : List MemPlace} (hv : Value.okWide P W .any base t v) (h : DataW.Trod enc P W 0 (fun _ => true) true t v d p) (hw : ∀ n ∈ d.weights P t, n ≤ reachBytes) :
    ∃ (A : Option Addr) (ss : List SnapD) (c : Nat), v = .slice A ss.length c ∧ InSnaps W A ss c := by
  obtain ⟨A, len, cap, rfl⟩ := okWide_slice ht hv
  obtain ⟨fuel, hf⟩ := h
  rcases open_slice ht hf with ⟨hcs, hx⟩ | ⟨a, l, c, m, n, D, Pl, hcs, _, hl, hm, hmm, hx, hi⟩
  · simp [Value.cells] at hcs
    obtain ⟨rfl, rfl, rfl⟩ := hcs
    exact ⟨none, [], 0, rfl, ⟨Rd.none_, (fun s hs => by cases hs), (fun h => absurd h (by simp)), by simp⟩⟩
  · simp [Value.cells] at hcs
    obtain ⟨rfl, rfl, rfl⟩ := hcs
    simp only [if_true] at hmm
    subst hmm
    simp only [Prod.mk.injEq] at hx
    obtain ⟨rfl, rfl⟩ := hx
    have hcap : m * 64 ≤ 140737488351232 := by
      have := hw (((List.range len).length + (List.range (m - len)).length) * P.bytesOf e) (by simp [DataW.weights, ht])
      simp only [List.length_range, reachBytes, be] at this
      rw [show len + (m - len) = m by omega] at this
      omega
    obtain ⟨ss, hss, hgood⟩ := list_of (G := fun k s => SnGood W a k s) len (fun k hk => by
      obtain ⟨cs', hc, ht'⟩ := hi k (by omega)
      rw [hC] at hc
      obtain ⟨ys, n', _, hy, hlen, hyl, hfl⟩ := DataW.trod_struct he ht'
      obtain ⟨_, hcl, hat⟩ := World.cells?_some hc
      have hDw : ∀ x ∈ (D k).weights P e, x ≤ reachBytes := fun x hx => hw x (by
        simp only [DataW.weights, ht]
        exact List.mem_cons_of_mem _ (List.mem_append_left _ (weights_mem_all (List.mem_map.2 ⟨k, List.mem_range.2 hk, rfl⟩) hx)))
      simp only [Prod.mk.injEq] at hy
      match cs', hcl, ys, hyl with
      | [c0, c1, c2, c3], _, [y0, y1, y2, y3], _ =>
        obtain ⟨o0, k0⟩ := hone_of hone 0 f0 rfl
        obtain ⟨o1, k1⟩ := hone_of hone 1 f1 rfl
        obtain ⟨o2, k2⟩ := hone_of hone 2 f2 rfl
        obtain ⟨o3, k3⟩ := hone_of hone 3 f3 rfl
        have t0 := hfl 0 f0 rfl
        have t1 := hfl 1 f1 rfl
        have t2 := hfl 2 f2 rfl
        have t3 := hfl 3 f3 rfl
        simp [o0, k0] at t0
        simp [o1, k1] at t1
        simp [o2, k2] at t2
        simp [o3, k3] at t3
        obtain ⟨i, rfl, hib⟩ := int_cell u0 t0
        obtain ⟨tt, rfl, htb⟩ := int_cell u1 t1
        obtain ⟨V, z, cv, rfl, hV⟩ := ints_cell u2 ue ce bei t2 (fun x hx => hDw x (by
          rw [hy.1]
          simp only [DataW.weights, he, List.map_cons, List.map_nil, DataW.weightsEach, List.mem_append]
          exact .inr (.inr (.inl hx))))
        obtain ⟨B, lb, cb, rfl, hB⟩ := bytes_cell u3 uq cq bq t3 (fun x hx => hDw x (by
          rw [hy.1]
          simp only [DataW.weights, he, List.map_cons, List.map_nil, DataW.weightsEach, List.mem_append]
          exact .inr (.inr (.inr (.inl hx)))))
        refine ⟨⟨i, tt, V, z, cv, B, lb, cb⟩, fun j hj => ?_, ⟨hV.rd, hB.rd, hV.wf, ?_, ?_, hib⟩⟩
        · match j, hj with
          | 0, _ => exact hat 0 (by omega)
          | 1, _ => exact hat 1 (by omega)
          | 2, _ => exact hat 2 (by omega)
          | 3, _ => exact hat 3 (by omega)
        · have h1 := hV.le
          have h2 := hV.cap
          show z.length ≤ _
          omega
        · have h1 := hB.le
          have h2 := hB.cap
          show lb.length ≤ _
          omega)
    have hadd : ∀ k j, (a.add (k * 4)).add j = a.add (k * 4 + j) := fun k j => by rw [Addr.add_add]
    refine ⟨some a, ss, m, by rw [hss], ⟨?_, fun s hs => ?_, fun h0 ad had => ?_, by omega⟩⟩
    · intro h0
      rw [cs_len] at h0
      have h1 := (hgood 0 (by omega)).1 0 (by omega)
      refine ⟨a, rfl, ?_, fun j u hu => ?_⟩
      · have h2 := World.block_lt_of_cell? W _ h1
        rwa [block_of_add, block_of_add] at h2
      · have hj : j < 4 * ss.length := by
          have := (List.getElem?_eq_some_iff.1 hu).1
          rwa [cs_len] at this
        have e : j = j / 4 * 4 + j % 4 := by omega
        rw [e, cs_at ss (by omega) (by omega)] at hu
        rw [e, ← hadd, (hgood (j / 4) (by omega)).1 (j % 4) (by omega), hu]
    · obtain ⟨k, hk, rfl⟩ := List.getElem_of_mem hs
      exact (hgood k hk).2
    · injection had with had
      subst had
      have h1 := (hgood 0 h0).1 0 (by omega)
      have h2 := plain_of_cell h1
      exact h2
end
end Go.Proofs.YteehkcpokgeipaaGreatDoor

/- pavanelaw23.KeepTwo answers true at every argument, the laid variables given. No further condition. -/
namespace Go.Proofs.YteehkcpokgeipaaGreatDoor
open Go.RowKit Oct
theorem keepTwo_facts (W : World) (h : laidMet Tryz.prog Rows.keepTwoRow.laid W) : Facts W := facts_of h
theorem keepTwo_walk (w : World) (ht : Facts w) (A : Option Addr) (ss : List SnapD) (c : Nat) (g : InSnaps w A ss c) :
    Calls Tryz.prog 3 #[.slice A ss.length c] w fun e w' => e = .returned (.bool true) ∧ Below w.heap.size w w' :=
  keepTwo_any A ss c w g.rd g.ok ht g.plain g.le
end Go.Proofs.YteehkcpokgeipaaGreatDoor
