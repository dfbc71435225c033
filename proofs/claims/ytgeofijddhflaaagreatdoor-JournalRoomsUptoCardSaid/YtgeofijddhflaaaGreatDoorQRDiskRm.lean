/- The reference's disk: Remove, Rename, Sync, Cut. Condition: the disk is a call's own. -/
import Derived.Test.YtgeofijddhflaaaGreatDoorQRDiskPut
import Derived.Test.YtgeofijddhflaaaGreatDoorQDiskOp
import Derived.Deep.DeepMust
set_option linter.unusedVariables false
namespace Go.Proofs.YtgeofijddhflaaaGreatDoor
open Go.RowKit Go.Maps Go.Sort Oct
theorem RRow.heap {w W : World} {base : Nat} {v : Value} {es : List (Nm × RF)} (h : RRow w base v es) (e : W.heap = w.heap) : RRow W base v es := row_keep h fun k _ => by rw [e]
end Go.Proofs.YtgeofijddhflaaaGreatDoor
set_option linter.unusedVariables false
namespace Go.Proofs.YtgeofijddhflaaaGreatDoor
open Go.RowKit Go.Maps Go.Sort Oct
section
variable {w w1 w2 : World} {base g : Nat} {p p' : PWD} {room : Int} {vL vL' : Value} {es es' : List (Nm × RF)}
theorem asPut_set {α : Type} {a : α} : ∀ {l : List (Nm × α)} (hr : Rising l) {k : Nat} (hk : k < l.length), asPut l[k].1 a l = l.set k (l[k].1, a)
 | [], _, k, hk => by simp at hk
 | y :: r, hr, k, hk => by
  have h1 := List.pairwise_cons.1 hr
  have hne : ∀ q ∈ r, q.1 ≠ y.1 := fun q hq e => by
   have := h1.1 q hq
   rw [e, show bytesBefore y.1 y.1 = false from WideAt.bytes_irrefl _] at this
   cases this
  cases k with
  | zero =>
   simp only [List.getElem_cons_zero, List.set_cons_zero]
   unfold asPut asDel
   rw [List.filter_cons_of_neg (by simp), List.filter_eq_self.2 (fun q hq => by simpa using hne q hq)]
   cases r with
   | nil => rfl
   | cons z r =>
    unfold asIns
    rw [if_pos (h1.1 z (List.mem_cons_self ..))]
  | succ k =>
   have hk' : k < r.length := by simpa using hk
   simp only [List.getElem_cons_succ, List.set_cons_succ]
   have ih := asPut_set (a := a) h1.2 hk'
   unfold asPut asDel at ih ⊢
   have h2 := h1.1 r[k] (List.getElem_mem hk')
   rw [List.filter_cons_of_pos (by simpa using (hne _ (List.getElem_mem hk')).symm)]
   unfold asIns
   rw [if_neg (fun h3 => by
    have := WideShapes.bytes_trans _ _ _ h2 h3
    rw [show bytesBefore y.1 y.1 = false from WideAt.bytes_irrefl _] at this
    cases this)]
   rw [ih]
theorem RDiskAt.setRow {b c : Nat} (h : RDiskAt w base g p room (.slice (some ⟨b, 0, none⟩) es.length c) es) {k : Nat} (hk : k < es.length) (q' : RF) (st : List Value → List Value) (hst : ∀ l, (st l).length = l.length) (hw : ∀ i, i ≠ b → w2.heap[i]? = w.heap[i]?) (hsz : w2.heap.size = w.heap.size) (hos : w2.os = w.os ∧ w2.tape = w.tape ∧ w2.output = w.output)
  (hb : ∀ cur, Blk w b 85 cur → ∃ cur', Blk w2 b 85 cur' ∧ cur'.size = cur.size ∧ ∀ N, cur'.toList.take N = st (cur.toList.take N)) (hq : st (rfCells es) = rfCells (es.set k (es[k].1, q'))) (hgot : Got w base q'.v q'.f.b) (hsafe : q'.f.safe ≤ q'.f.b.length)
  (hfoot : ∀ i, q'.v.ownBlock = some i → RFoot g (.slice (some ⟨b, 0, none⟩) es.length c) es i ∨ w1.heap.size ≤ i) :
  RDiskAt w2 base g p room (.slice (some ⟨b, 0, none⟩) es.length c) (asPut es[k].1 q' es) ∧ Fr (RFoot g (.slice (some ⟨b, 0, none⟩) es.length c) es) w w2 ∧
  (∀ i, RFoot g (.slice (some ⟨b, 0, none⟩) es.length c) (asPut es[k].1 q' es) i → RFoot g (.slice (some ⟨b, 0, none⟩) es.length c) es i ∨ w1.heap.size ≤ i) := by
 have hset := asPut_set (a := q') h.rising hk
 have hrise := asPut_rising (n := es[k].1) (a := q') h.rising
 obtain ⟨x, y, hB, hxy⟩ := h.blk
 have hbb : base ≤ b := (World.ownsRow.lt h.own b rfl).1
 have hgb : g ≠ b := fun e => row_blk_ne h.own hB (by decide) (by rw [e]; rfl)
 have hgk : ∀ q : Nm × RF, Got w base q.2.v q.2.f.b → Got w2 base q.2.v q.2.f.b := fun q hq => hq.kept (fun i hi => hw i (fun e => row_got_ne h.own hq (by decide) i hi (by rw [e]; rfl))) (by rw [hsz]; exact Nat.le_refl _)
 refine ⟨⟨⟨x, y, (hw g hgb).trans hB, hxy⟩, ?_, fun q hq => ?_, fun q hq => ?_, hrise, h.low, h.num⟩, ⟨hos.1, hos.2.1, hos.2.2, by rw [hsz]; exact Nat.le_refl _, fun i _ hm => hw i (fun e => hm (.inr (.inl (by rw [e]; rfl))))⟩, fun i hi => ?_⟩
 ·rw [hset, ← hq, List.length_set]
  refine ⟨by rw [hst, rfCells_len], .inr ?_⟩
  rcases h.own.2 with ⟨hn, _⟩ | ⟨b', cap, cur, hv, _, hg', hc, hcm, hcs, hx⟩
  ·cases hn
  ·injection hv with hv1 _ hv3
   injection hv1 with hv1
   injection hv1 with hv1
   subst hv1 hv3
   obtain ⟨cur', h1, h2, h3⟩ := hb cur hg'
   exact ⟨b, c, cur', rfl, hbb, h1, hc, hcm, by rw [h2]; exact hcs, by rw [h3, hx]⟩
 ·rcases asPut_mem.1 hq with rfl | ⟨hq, _⟩
  ·exact hgk (es[k].1, q') hgot
  ·exact hgk q (h.got q hq)
 ·rcases asPut_mem.1 hq with rfl | ⟨hq, _⟩
  ·exact hsafe
  ·exact h.safe q hq
 ·rcases hi with rfl | hi | ⟨q, hq, hi⟩
  ·exact .inl (.inl rfl)
  ·exact .inl (.inr (.inl hi))
  ·rcases asPut_mem.1 hq with rfl | ⟨hq, _⟩
   ·exact hfoot i hi
   ·exact .inl (.inr (.inr ⟨q, hq, hi⟩))
theorem take_set_arr (cur : Array Value) (i : Nat) (u : Value) (N : Nat) : (cur.setIfInBounds i u).toList.take N = (cur.toList.take N).set i u := by rw [Array.toList_setIfInBounds, List.take_set]
theorem RDiskAt.setFile {b c : Nat} (h : RDiskAt w base g p room (.slice (some ⟨b, 0, none⟩) es.length c) es) {k : Nat} (hk : k < es.length) {j : Nat} (hj : j < 3) (u : Value) (q' : RF) (hq : rfOne (es[k].1, q') = (rfOne es[k]).set j u) (hgot : Got w base q'.v q'.f.b) (hsafe : q'.f.safe ≤ q'.f.b.length)
  (hfoot : ∀ i, q'.v.ownBlock = some i → RFoot g (.slice (some ⟨b, 0, none⟩) es.length c) es i ∨ w1.heap.size ≤ i) :
  RDiskAt (w.setCell ⟨b, k * 3 + j, none⟩ u) base g p room (.slice (some ⟨b, 0, none⟩) es.length c) (asPut es[k].1 q' es) ∧ Fr (RFoot g (.slice (some ⟨b, 0, none⟩) es.length c) es) w (w.setCell ⟨b, k * 3 + j, none⟩ u) ∧
  (∀ i, RFoot g (.slice (some ⟨b, 0, none⟩) es.length c) (asPut es[k].1 q' es) i → RFoot g (.slice (some ⟨b, 0, none⟩) es.length c) es i ∨ w1.heap.size ≤ i) :=
 h.setRow hk q' (fun l => l.set (k * 3 + j) u) (fun l => List.length_set ..) (fun i hi => Below.heap_setCell w ⟨b, k * 3 + j, none⟩ u i (by simpa using hi)) (by simp) ⟨(grown_setCell w b (k * 3 + j) u).os, (grown_setCell w b (k * 3 + j) u).tape, (grown_setCell w b (k * 3 + j) u).output⟩
  (fun cur hc => ⟨_, Blk.set_ hc (k * 3 + j) u, by simp, fun N => take_set_arr cur _ u N⟩) (rfCells_set es hk hj u (es[k].1, q') hq) hgot hsafe hfoot
end
end Go.Proofs.YtgeofijddhflaaaGreatDoor
