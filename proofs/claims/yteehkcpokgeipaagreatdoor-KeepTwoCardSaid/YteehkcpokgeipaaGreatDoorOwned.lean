/- The statements' own helper Owned: rows of bytes, each in a block of its own, are written over without another one changing. Condition: no two rows lie in one block. -/
import Derived.Test.YteehkcpokgeipaaGreatDoorTakes
set_option linter.unusedVariables false
namespace Go.Proofs.YteehkcpokgeipaaGreatDoor
open Go.RowKit Oct

/-- A row of bytes that is nil or owns a block from base on, whole. -/
def RowOk (w : World) (base : Nat) (v : Value) : Prop :=
  v = .slice none 0 0 ∨ ∃ g n cap cur, v = .slice (some ⟨g, 0, none⟩) n cap ∧ base ≤ g ∧ Blk w g 5 cur ∧ cap ≤ cur.size ∧ n ≤ cap ∧ cap ≤ 9223372036854775807
/-- The same, filled with one byte. -/
def RowFull (w : World) (v : Value) (x : Int) : Prop :=
  v = .slice none 0 0 ∨ ∃ g n cap rest, v = .slice (some ⟨g, 0, none⟩) n cap ∧ Blk w g 5 (List.replicate cap (Value.int .u8 x) ++ rest).toArray ∧ n ≤ cap ∧ cap ≤ 9223372036854775807
/-- But for the blocks of these rows nothing has turned. -/
structure Others (vs : List Value) (w w' : World) : Prop where
  os : w'.os = w.os
  tape : w'.tape = w.tape
  output : w'.output = w.output
  size : w'.heap.size = w.heap.size
  block : ∀ k, (∀ v ∈ vs, v.ownBlock ≠ some k) → w'.heap[k]? = w.heap[k]?
def Apart (vs : List Value) : Prop := ∀ i j (hi : i < vs.length) (hj : j < vs.length), i ≠ j → ∀ g, vs[i].ownBlock = some g → vs[j].ownBlock ≠ some g

theorem Others.refl (vs : List Value) (w : World) : Others vs w w := ⟨rfl, rfl, rfl, rfl, fun _ _ => rfl⟩
theorem Others.drewN {vs : List Value} {w w' : World} (h : Others vs w w') (n : Nat) : Others vs w (w'.drewN n) := ⟨h.os, h.tape, h.output, h.size, h.block⟩
theorem Others.set {vs : List Value} {w w' : World} (h : Others vs w w') {v : Value} (hv : v ∈ vs) {g : Nat} (hg : v.ownBlock = some g) (i : Nat) (u : Value) : Others vs w (w'.setCell ⟨g, i, none⟩ u) :=
  ⟨h.os, h.tape, h.output, by simp [World.setCell, h.size], fun k hk => (Below.heap_setCell _ _ _ _ (by rintro rfl; exact hk v hv hg)).trans (h.block k hk)⟩
theorem Others.rd {vs : List Value} {w w' : World} (h : Others vs w w') {B : Nat} {A : Option Addr} {xs : List Value} (hr : Rd w B A xs) (hne : ∀ ad, A = some ad → ∀ v ∈ vs, v.ownBlock ≠ some ad.block) : Rd w' B A xs := fun hn => by
  obtain ⟨ad, rfl, hb, hc⟩ := hr hn
  exact ⟨ad, rfl, hb, fun j u hu => (World.cell?_of_block (w := w) (by rw [block_of_add]; exact h.block _ (hne ad rfl))).trans (hc j u hu)⟩
theorem Others.below {vs : List Value} {w w' : World} (h : Others vs w w') {base : Nat} (hb : ∀ v ∈ vs, ∀ k, v.ownBlock = some k → base ≤ k) : Below base w w' :=
  ⟨h.os, h.tape, h.output, by rw [h.size]; exact Nat.le_refl _, fun k hk => h.block k fun v hv hg => by have := hb v hv k hg; omega⟩
theorem RowOk.base {w : World} {base : Nat} {v : Value} (h : RowOk w base v) : ∀ k, v.ownBlock = some k → base ≤ k := by
  rintro k hk
  rcases h with rfl | ⟨g, n, cap, cur, rfl, hb, _⟩
  · simp [Value.ownBlock] at hk
  · simp [Value.ownBlock] at hk; omega
theorem RowOk.of_full {w : World} {base : Nat} {v : Value} {x : Int} (h : RowFull w v x) (hb : ∀ k, v.ownBlock = some k → base ≤ k) : RowOk w base v := by
  rcases h with rfl | ⟨g, n, cap, rest, rfl, hblk, hn, hc⟩
  · exact .inl rfl
  · exact .inr ⟨g, n, cap, _, rfl, hb g rfl, hblk, by simp, hn, hc⟩
theorem RowOk.keep {w w' : World} {base : Nat} {v : Value} (h : RowOk w base v) (hk : ∀ g, v.ownBlock = some g → w'.heap[g]? = w.heap[g]?) : RowOk w' base v := by
  rcases h with rfl | ⟨g, n, cap, cur, rfl, hb, hblk, r⟩
  · exact .inl rfl
  · exact .inr ⟨g, n, cap, cur, rfl, hb, (hk g rfl).trans hblk, r⟩
theorem RowFull.keep {w w' : World} {v : Value} {x : Int} (h : RowFull w v x) (hk : ∀ g, v.ownBlock = some g → w'.heap[g]? = w.heap[g]?) : RowFull w' v x := by
  rcases h with rfl | ⟨g, n, cap, rest, rfl, hblk, r⟩
  · exact .inl rfl
  · exact .inr ⟨g, n, cap, rest, rfl, (hk g rfl).trans hblk, r⟩
theorem RowOk.of_own {w : World} {base : Nat} {v : Value} {l : List UInt8} (h : Bs w base v l) : RowOk w base v := by
  rcases Own.whole h with ⟨rfl, _⟩ | ⟨g, cap, cur, rfl, hb, hg, hblk, hn, hc, hs, _⟩
  · exact .inl rfl
  · exact .inr ⟨g, _, cap, cur, rfl, hb, hblk, Nat.le_of_eq hs.symm, hn, by unfold maxLen at hc; omega⟩
theorem RowOk.of_lent {w : World} {base g : Nat} {l : List UInt8} (h : LentAt w g l) (hb : base ≤ g) (hl : l.length ≤ 140737488351232) : RowOk w base (.slice (some ⟨g, 0, none⟩) l.length (l.length + 1)) :=
  .inr ⟨g, _, _, _, rfl, hb, h, by simp [cells], by omega, by omega⟩

def byteOf (k : Nat) : Int := ((k : Int) + 1) % 256
theorem fill_step (cap q : Nat) (x : Value) (cur : List Value) (hcs : cap ≤ cur.length) (hq : q < cap) :
    (List.replicate q x ++ cur.drop q).toArray.setIfInBounds q x = (List.replicate (q + 1) x ++ cur.drop (q + 1)).toArray := by
  have h : cur.drop q = cur[q] :: cur.drop (q + 1) := List.drop_eq_getElem_cons (by omega)
  rw [h, List.replicate_succ', List.append_assoc]
  simp only [List.setIfInBounds_toArray]
  rw [List.set_append, if_neg (by simp)]
  simp
  rw [h]
  rfl

set_option maxHeartbeats 1000000 in
set_option maxRecDepth 100000 in
theorem owned_any (A : Option Addr) (vs : List Value) (n c B base : Nat) (hn : n = vs.length) (w : World) (hr : Rd w B A vs) (hok : ∀ v ∈ vs, RowOk w base v) (hap : Apart vs) (hne : ∀ ad, A = some ad → ∀ v ∈ vs, v.ownBlock ≠ some ad.block)
    (hl : vs.length ≤ 4611686018427387904) :
    Calls Tryz.prog 85 #[.slice A n c] w fun e w' => e = .returned (.bool true) ∧ Others vs w w' ∧ ∀ v ∈ vs, RowOk w' base v := by
  subst hn
  have HOK := Lib.hid hok
  have HAP := Lib.hid hap
  have HNE := Lib.hid hne
  clear hok hap hne
  go_enter Tryz.func85, Tryz.ntmps85
  go_wp2_with fail
  go_loopw [3, 4, 5] (fun i y1 y2 wr => ∃ k : Nat, k ≤ vs.length ∧ i = .int .i64 k ∧ Others vs w wr ∧ Hid (∀ j (hj : j < vs.length), (j < k → RowFull wr vs[j] (byteOf j)) ∧ (k ≤ j → RowOk wr base vs[j]))) (fun i _ _ _ => vs.length - (intOf i).toNat)
  case atStart => exact ⟨0, by omega, rfl, Others.refl _ _, Lib.hid fun j hj => ⟨fun h => absurd h (by omega), fun _ => HOK.out _ (List.getElem_mem hj)⟩⟩
  case round =>
    obtain ⟨k, hk, rfl, hoth, hrows⟩ := hrel
    by_cases hlt : k < vs.length
    · obtain ⟨ad, rfl, hbk, hcell⟩ := (hoth.rd hr HNE.out).at_ hlt
      have hkI : (k : Int) < vs.length := by omega
      rcases (hrows.out k hlt).2 (Nat.le_refl _) with hv | ⟨g, n, cap, cur, hv, hbg, hblk, hcs, hnc, hcap⟩
      · have hstep : Hid (∀ j (hj : j < vs.length), (j < k + 1 → RowFull wr vs[j] (byteOf j)) ∧ (k + 1 ≤ j → RowOk wr base vs[j])) := Lib.hid fun j hj => ⟨fun h => by
          by_cases hjk : j = k
          · subst hjk; exact .inl hv
          · exact (hrows.out j hj).1 (by omega), fun h => (hrows.out j hj).2 (by omega)⟩
        rw [hv] at hcell
        have HV := Lib.hid hv
        clear hv hrows
        go_wp2_with fail
        go_quiet (fail)
        go_wp2_with fail
        refine wp_loop_rounds 1 ?_
        rw [rounds_succ]
        go_wp2
        go_roundw
        case rel => exact ⟨k + 1, by omega, by go_num, hoth.drewN _, hstep⟩
        case measure => simp [intOf]; omega
      · have hmem := List.getElem_mem hlt
        have hvb : vs[k].ownBlock = some g := by rw [hv]; rfl
        rw [hv] at hcell
        have HV := Lib.hid hv
        have HB := Lib.hid hblk
        have HCS := Lib.hid hcs
        clear hv hblk hcs
        go_wp2_with fail
        go_quiet (fail)
        go_wp2_with fail
        obtain ⟨wo, hwo⟩ : ∃ wo : World, wo = wr.drewN nq := ⟨_, rfl⟩
        rw [← hwo]
        have hoth' : Others vs w wo := by rw [hwo]; exact hoth.drewN _
        have hB' : Blk wo g 5 cur := by rw [hwo]; exact HB.out
        have hR' : Hid (∀ j (hj : j < vs.length), (j < k → RowFull wo vs[j] (byteOf j)) ∧ (k ≤ j → RowOk wo base vs[j])) := by rw [hwo]; exact hrows
        have hc' : wo.cell? (ad.add k) = some (.slice (some ⟨g, 0, none⟩) n cap) := by rw [hwo]; exact hcell
        clear hoth HB hrows hcell hwo
        go_loopw [5] (fun i wq => ∃ q : Nat, q ≤ cap ∧ i = .int .i64 q ∧ Others vs w wq ∧ Blk wq g 5 (List.replicate q (Value.int .u8 (byteOf k)) ++ cur.toList.drop q).toArray ∧ wo.grownBy wq (some g)) (fun i _ => cap - (intOf i).toNat)
        case atStart => exact ⟨0, by omega, rfl, hoth', by simpa using hB', World.grownBy.refl _ _⟩
        case round =>
          obtain ⟨q, hq, rfl, ho, hbq, hgq⟩ := hrel
          have hlen : cap ≤ cur.toList.length := by rw [Array.length_toList]; exact HCS.out
          by_cases hqc : q < cap
          · have hst := fill_step cap q (Value.int .u8 (byteOf k)) cur.toList hlen hqc
            have hcq : ∃ u, wr.cell? ⟨g, q, none⟩ = some u := by
              rw [hbq.cell]
              exact ⟨_, Array.getElem?_eq_getElem (by have := HCS.out; simp; omega)⟩
            obtain ⟨u, hcq⟩ := hcq
            have hfq := hbq.frozen q
            have hbq2 : Blk (wr.setCell ⟨g, q, none⟩ (.int .u8 (byteOf k))) g 5 (List.replicate (q + 1) (Value.int .u8 (byteOf k)) ++ cur.toList.drop (q + 1)).toArray := by rw [← hst]; exact hbq.set_ q _
            have ho2 := ho.set hmem hvb q (.int .u8 (byteOf k))
            have hgq2 := grown_then hgq (grown_setCell wr g q (.int .u8 (byteOf k))) (.inl rfl)
            have hbk2 : IntKind.u8.wrap ((k : Int) + 1) = byteOf k := by unfold byteOf; simp [IntKind.wrap, IntKind.bits, IntKind.signed]
            have hbk3 : ((k : Int) + 1) % 256 = byteOf k := rfl
            have HST := Lib.hid hst
            clear hst hbq ho hgq
            go_wp2
            go_roundw
            case rel => exact ⟨q + 1, by omega, by go_num, ho2, hbq2, hgq2⟩
            case measure => simp [intOf]; omega
          · obtain rfl : q = cap := by omega
            have hfull : Hid (∀ j (hj : j < vs.length), (j < k + 1 → RowFull wr vs[j] (byteOf j)) ∧ (k + 1 ≤ j → RowOk wr base vs[j])) := Lib.hid fun j hj => by
              have hfar : j ≠ k → ∀ x, vs[j].ownBlock = some x → wr.heap[x]? = wo.heap[x]? := fun hjk x hx => by
                by_cases hxs : x < wo.heap.size
                · exact hgq.block x hxs (by
                    intro e
                    have : x = g := by injection e
                    subst this
                    exact HAP.out j k hj hlt hjk x hx hvb)
                · have h1 : wo.heap[x]? = none := Array.getElem?_eq_none (by omega)
                  have h2 : wr.heap[x]? = none := Array.getElem?_eq_none (by have := ho.size; have := hoth'.size; omega)
                  rw [h1, h2]
              refine ⟨fun h => ?_, fun h => ((hR'.out j hj).2 (by omega)).keep (hfar (by omega))⟩
              by_cases hjk : j = k
              · subst hjk
                exact .inr ⟨g, n, q, _, HV.out, hbq, hnc, hcap⟩
              · exact ((hR'.out j hj).1 (by omega)).keep (hfar hjk)
            clear hbq hgq hR' hoth' hB' hc'
            go_wp2
            go_roundw
            case rel => exact ⟨k + 1, by omega, by go_num, ho, hfull⟩
            case measure => simp [intOf]; omega
    · obtain rfl : k = vs.length := by omega
      have hfull : ∀ j (hj : j < vs.length), RowFull wr vs[j] (byteOf j) := fun j hj => (hrows.out j hj).1 hj
      have HF := Lib.hid hfull
      clear hrows hfull
      go_wp2_with fail
      obtain ⟨wo, hwo⟩ : ∃ wo : World, wo = wr := ⟨_, rfl⟩
      rw [← hwo] at HF hoth ⊢
      clear hwo
      go_loopw [6, 7, 8] (fun i y1 y2 wr => ∃ k : Nat, k ≤ vs.length ∧ i = .int .i64 k ∧ ∃ q, wr = wo.drewN q) (fun i _ _ _ => vs.length - (intOf i).toNat)
      case atStart => exact ⟨0, by omega, rfl, 0, rfl⟩
      case round =>
        obtain ⟨k, hk, rfl, q0, rfl⟩ := hrel
        by_cases hlt : k < vs.length
        · obtain ⟨ad, rfl, hbk, hcell⟩ := (hoth.rd hr HNE.out).at_ hlt
          have hkI : (k : Int) < vs.length := by omega
          rcases HF.out k hlt with hv | ⟨g, n, cap, rest, hv, hblk, hnc, hcap⟩
          · rw [hv] at hcell
            have HV := Lib.hid hv
            clear hv
            go_wp2_with fail
            go_quiet (fail)
            go_wp2_with fail
            refine wp_loop_rounds 1 ?_
            rw [rounds_succ]
            go_wp2
            go_roundw
            case rel => exact ⟨k + 1, by omega, by go_num, _, rfl⟩
            case measure => simp [intOf]; omega
          · rw [hv] at hcell
            have HV := Lib.hid hv
            have HB := Lib.hid hblk
            clear hv hblk
            go_wp2_with fail
            go_quiet (fail)
            go_wp2_with fail
            go_loopw [8] (fun i wq => ∃ q : Nat, q ≤ cap ∧ i = .int .i64 q ∧ ∃ Q, wq = wo.drewN Q) (fun i _ => cap - (intOf i).toNat)
            case atStart => exact ⟨0, by omega, rfl, q0 + nq, by rw [World.drewN_drewN]⟩
            case round =>
              obtain ⟨q, hq, rfl, Q, rfl⟩ := hrel
              by_cases hqc : q < cap
              · have hcq : wo.cell? ⟨g, q, none⟩ = some (.int .u8 (byteOf k)) := by
                  rw [HB.out.cell]
                  simp [List.getElem?_append, hqc]
                have hbk2 : IntKind.u8.wrap ((k : Int) + 1) = byteOf k := by unfold byteOf; simp [IntKind.wrap, IntKind.bits, IntKind.signed]
                have hbk3 : ((k : Int) + 1) % 256 = byteOf k := rfl
                go_wp2
                go_roundw
                case rel => exact ⟨q + 1, by omega, by go_num, Q, rfl⟩
                case measure => simp [intOf]; omega
              · go_wp2
                go_roundw
                case rel => exact ⟨k + 1, by omega, by go_num, _, rfl⟩
                case measure => simp [intOf]; omega
        · go_wp2
          go_ret
          refine ⟨rfl, hoth.drewN _, fun v hv => ?_⟩
          obtain ⟨j, hj, rfl⟩ := List.getElem_of_mem hv
          exact RowOk.of_full (w := wo) (HF.out j hj) (HOK.out _ hv).base

theorem LentAt.rd {w : World} {g : Nat} {l : List UInt8} (h : LentAt w g l) : Rd w (g + 1) (some ⟨g, 0, none⟩) (cells l) := by
  intro _
  refine ⟨_, rfl, by simp, fun j u hu => ?_⟩
  rw [show (⟨g, 0, none⟩ : Addr).add j = ⟨g, j, none⟩ by simp [Addr.add_lit], Blk.cell h]
  have hj : j < (cells l).length := (List.getElem?_eq_some_iff.1 hu).1
  simp only [List.getElem?_toArray]
  rw [List.getElem?_append_left hj]
  exact hu
theorem LentAt.below {w w' : World} {g B : Nat} {l : List UInt8} (h : LentAt w g l) (hb : Below B w w') (hg : g < B) : LentAt w' g l := Blk.below h hb hg
theorem Rd.lower {w : World} {B B' : Nat} {A : Option Addr} {xs : List Value} (h : Rd w B A xs) (hB : ∀ ad, A = some ad → ad.block < B') : Rd w B' A xs := fun hn => by
  obtain ⟨ad, rfl, _, hc⟩ := h hn
  exact ⟨ad, rfl, hB ad rfl, hc⟩
/-- A row of two that was just laid. -/
theorem rd_two (w : World) (t : TypeId) (a b : Value) : Rd (w.alloc (.cells #[a, b] t)) (w.heap.size + 1) (some ⟨w.heap.size, 0, none⟩) [a, b] := by
  intro _
  refine ⟨_, rfl, by simp, fun j u hu => ?_⟩
  rw [show (⟨w.heap.size, 0, none⟩ : Addr).add j = ⟨w.heap.size, j, none⟩ by simp [Addr.add_lit], World.cell?_alloc_at _ _ _ _ rfl]
  simpa using hu
theorem apart_two {a b : Value} (h : ∀ g, a.ownBlock = some g → b.ownBlock ≠ some g) : Apart [a, b] := by
  intro i j hi hj hij g hg
  match i, j, hi, hj with
  | 0, 0, _, _ => exact absurd rfl hij
  | 1, 1, _, _ => exact absurd rfl hij
  | 0, 1, _, _ => exact h g hg
  | 1, 0, _, _ => exact fun h' => h g h' hg
theorem RowOk.lt {w : World} {base : Nat} {v : Value} (h : RowOk w base v) : ∀ g, v.ownBlock = some g → g < w.heap.size := by
  rintro k hk
  rcases h with rfl | ⟨g, n, cap, cur, rfl, hb, hblk, _⟩
  · simp [Value.ownBlock] at hk
  · simp [Value.ownBlock] at hk; rw [← hk]; exact hblk.lt
theorem RowOk.alloc {w : World} {base : Nat} {v : Value} (h : RowOk w base v) (o : Obj) : RowOk (w.alloc o) base v :=
  h.keep fun g hg => Below.heap_alloc w o g (h.lt g hg)
/-- The same, and nothing beside the two rows has turned. -/
theorem owned_two_far (a b : Value) (base : Nat) (w : World) (ha : RowOk w base a) (hb : RowOk w base b) (hap : ∀ g, a.ownBlock = some g → b.ownBlock ≠ some g) (hbase : base ≤ w.heap.size) :
    Calls Tryz.prog 85 #[.slice (some ⟨w.heap.size, 0, none⟩) 2 2] (w.alloc (.cells #[a, b] 27)) fun e w' => e = .returned (.bool true) ∧ Below base w w' ∧ ∀ k, k < w.heap.size → a.ownBlock ≠ some k → b.ownBlock ≠ some k → w'.heap[k]? = w.heap[k]? := by
  have hall : ∀ v ∈ [a, b], RowOk (w.alloc (.cells #[a, b] 27)) base v := by
    intro v hv
    simp only [List.mem_cons, List.not_mem_nil, or_false] at hv
    rcases hv with rfl | rfl
    · exact ha.alloc _
    · exact hb.alloc _
  have hlt : ∀ v ∈ [a, b], ∀ g, v.ownBlock = some g → g < w.heap.size := by
    intro v hv
    simp only [List.mem_cons, List.not_mem_nil, or_false] at hv
    rcases hv with rfl | rfl
    · exact ha.lt
    · exact hb.lt
  refine (owned_any _ [a, b] 2 2 _ base rfl _ (rd_two w _ a b) hall (apart_two hap) (by
    intro ad had v hv he
    injection had with had
    subst had
    have := hlt v hv _ he
    simp at this) (by simp)).mono ?_
  rintro e w' ⟨rfl, ho, _⟩
  refine ⟨rfl, ((Below.refl _ w).alloc hbase _).trans (ho.below fun v hv => (hall v hv).base), fun k hk h1 h2 => ?_⟩
  refine (ho.block k fun v hv => ?_).trans (Below.heap_alloc w _ k hk)
  simp only [List.mem_cons, List.not_mem_nil, or_false] at hv
  rcases hv with rfl | rfl
  · exact h1
  · exact h2
/-- Owned of two rows that were just laid side by side. -/
theorem owned_two (a b : Value) (base : Nat) (w : World) (ha : RowOk w base a) (hb : RowOk w base b) (hap : ∀ g, a.ownBlock = some g → b.ownBlock ≠ some g) (hbase : base ≤ w.heap.size) :
    Calls Tryz.prog 85 #[.slice (some ⟨w.heap.size, 0, none⟩) 2 2] (w.alloc (.cells #[a, b] 27)) fun e w' => e = .returned (.bool true) ∧ Below base w w' := by
  refine (owned_two_far a b base w ha hb hap hbase).mono ?_
  rintro e w' ⟨rfl, h, _⟩
  exact ⟨rfl, h⟩
end Go.Proofs.YteehkcpokgeipaaGreatDoor

/- The statements' own helper OwnInts: two rows of numbers, each in a block of its own, are written over without the first one changing by the second. Condition: the two rows lie apart. -/
set_option linter.unusedVariables false
namespace Go.Proofs.YteehkcpokgeipaaGreatDoor
open Go.RowKit Oct

/-- A row of numbers, known to its capacity, in a block of its own where it has any. -/
def IBlk (w : World) (A : Option Addr) (cap : Nat) (cur : List Value) : Prop := cur.length = cap ∧ (0 < cap → ∃ g, A = some ⟨g, 0, none⟩ ∧ Blk w g 3 cur.toArray)
theorem IBlk.of_own {w : World} {base : Nat} {v : Value} {z : List Int} (h : Is w base v z) : ∃ A cap cur, v = .slice A z.length cap ∧ cap ≤ 9223372036854775807 ∧ IBlk w A cap cur ∧ ∀ g, A = some ⟨g, 0, none⟩ → base ≤ g := by
  rcases Own.whole h with ⟨rfl, hz⟩ | ⟨g, cap, cur, rfl, hb, hg, hblk, hn, hc, hs, _⟩
  · have : z = [] := by simpa using hz
    subst this
    exact ⟨none, 0, [], rfl, by omega, ⟨rfl, fun h => absurd h (by omega)⟩, fun g h => by cases h⟩
  · rw [List.length_map]
    refine ⟨_, cap, cur.toList, rfl, by unfold maxLen at hc; omega, ⟨by simpa using hs, fun _ => ⟨g, rfl, by unfold Blk; simpa using hblk⟩⟩, fun g' h => ?_⟩
    injection h with h
    injection h with h
    omega
theorem IBlk.set {w : World} {g cap q : Nat} {x : Value} {cur : List Value} (hb : Blk w g 3 (List.replicate q x ++ cur.drop q).toArray) (hcs : cur.length = cap) (hq : q < cap) :
    IBlk (w.setCell ⟨g, q, none⟩ x) (some ⟨g, 0, none⟩) cap (List.replicate (q + 1) x ++ cur.drop (q + 1)) := by
  refine ⟨by simp; omega, fun _ => ⟨g, rfl, ?_⟩⟩
  rw [← fill_step cap q x cur (Nat.le_of_eq hcs.symm) hq]
  exact hb.set_ q x
theorem IBlk.far {w : World} {A : Option Addr} {cap : Nat} {cur : List Value} (h : IBlk w A cap cur) {g : Nat} (hne : A ≠ some ⟨g, 0, none⟩) (q : Nat) (u : Value) : IBlk (w.setCell ⟨g, q, none⟩ u) A cap cur := by
  refine ⟨h.1, fun h0 => ?_⟩
  obtain ⟨g', rfl, hb⟩ := h.2 h0
  exact ⟨g', rfl, hb.far (by rintro rfl; exact hne rfl) u⟩

theorem IBlk.keep {w w' : World} {A : Option Addr} {cap : Nat} {cur : List Value} (h : IBlk w A cap cur) (hk : ∀ g, A = some ⟨g, 0, none⟩ → w'.heap[g]? = w.heap[g]?) : IBlk w' A cap cur := by
  refine ⟨h.1, fun h0 => ?_⟩
  obtain ⟨g', rfl, hb⟩ := h.2 h0
  exact ⟨g', rfl, (hk g' rfl).trans hb⟩

end Go.Proofs.YteehkcpokgeipaaGreatDoor
