/- A disk's Append. Condition: the disk is a call's own; name and parts can be read, within the form's reach. -/
import Derived.Test.YtgeofijddhflaaaGreatDoorLDiskP
import Derived.Test.YtgeofijddhflaaaGreatDoorLKeepSame
set_option linter.unusedVariables false
set_option linter.unusedSimpArgs false
set_option maxHeartbeats 8000000
set_option maxRecDepth 100000
namespace Go.Proofs.YtgeofijddhflaaaGreatDoor
section
open Go.RowKit Go.Maps Go.Sort Oct
structure FE where
 blk : Nat
 v : Value
 f : FD
structure Fr (mine : Nat -> Prop) (w w' : World) : Prop where
 os : w'.os = w.os
 tape : w'.tape = w.tape
 output : w'.output = w.output
 size : w.heap.size <= w'.heap.size
 block : ∀ k, k < w.heap.size -> ¬ mine k -> w'.heap[k]? = w.heap[k]?
section
variable {mine mine' : Nat -> Prop} {w w1 w2 w' : World}
theorem Fr.refl (mine : Nat -> Prop) (w : World) : Fr mine w w := ⟨rfl, rfl, rfl, lR _, fun _ _ _ => rfl⟩
theorem Fr.trans (h : Fr mine w w1) (k : Fr mine' w1 w2) (hm : ∀ j, mine' j -> mine j ∨ w.heap.size <= j) : Fr mine w w2 :=
 ⟨k.os.trans h.os, k.tape.trans h.tape, k.output.trans h.output, Nat.le_trans h.size k.size, fun j hj hn => (k.block j (Nat.lt_of_lt_of_le hj h.size) (fun e => by rcases hm j e with h1 | h1; exact hn h1; omega)).trans (h.block j hj hn)⟩
theorem Fr.of_below (mine : Nat -> Prop) (h : Below w.heap.size w w') : Fr mine w w' := ⟨h.os, h.tape, h.output, h.size, fun k hk _ => h.block k hk⟩
theorem Fr.of_grown {row : Option Nat} (h : w.grownBy w' row) (hm : ∀ k, row = some k -> mine k) : Fr mine w w' :=
 ⟨h.os, h.tape, h.output, h.size, fun k hk hn => h.block k hk (fun e => hn (hm k e.symm))⟩
theorem Fr.mono (h : Fr mine w w') (hm : ∀ j, j < w.heap.size -> mine j -> mine' j) : Fr mine' w w' := ⟨h.os, h.tape, h.output, h.size, fun k hk hn => h.block k hk (fun e => hn (hm k hk e))⟩
theorem Fr.below (h : Fr mine w w') {B : Nat} (hB : B <= w.heap.size) (hm : ∀ j, mine j -> B <= j) : Below B w w' :=
 ⟨h.os, h.tape, h.output, h.size, fun k hk => h.block k (by omega) (fun e => by have := hm k e; omega)⟩
end
def aA8 (g m : Nat) (es : List (Nm × FE)) (k : Nat) : Prop := k = g ∨ k = m ∨ ∃ p ∈ es, k = p.2.blk ∨ p.2.v.ownBlock = some k
structure aB0 (w : World) (base g m : Nat) (p : PWD) (room : Int) (es : List (Nm × FE)) : Prop where
 blk : Blk w g 61 #[.bool p.off, .bool p.armed, .int .i64 p.acts, .int .i64 p.part, .int .i64 room, .map (some m)]
 map : aG2 Tryz.prog 9 w m (sec FE.blk es)
 file : ∀ q ∈ es, Blk w q.2.blk 83 #[q.2.v, .int .i64 q.2.f.safe]
 got : ∀ q ∈ es, Got w base q.2.v q.2.f.b
 safe : ∀ q ∈ es, q.2.f.safe <= q.2.f.b.length
 apart : ∀ a b, a ∈ es -> b ∈ es -> a.1 ≠ b.1 -> a.2.blk ≠ b.2.blk ∧ ∀ k, a.2.v.ownBlock = some k -> b.2.v.ownBlock ≠ some k
 low : base <= g ∧ base <= m ∧ ∀ q ∈ es, base <= q.2.blk
 num : (-9223372036854775808 <= p.acts ∧ p.acts <= 9223372036854775807) ∧ (-9223372036854775808 <= p.part ∧ p.part <= 9223372036854775807) ∧ 0 <= room ∧ room <= 9223372036854775807
section
variable {w w' : World} {base g m : Nat} {p : PWD} {room : Int} {es : List (Nm × FE)}
theorem aB0.rising (h : aB0 w base g m p room es) : aG8 es := by
 have h1 := h.map.rising (string_keyed Tryz.underlying9);unfold aG8 at h1 ⊢;rw [List.pairwise_map] at h1;exact h1
theorem aB0.lt (h : aB0 w base g m p room es) : ∀ k, aA8 g m es k -> base <= k ∧ k < w.heap.size := by
 intro k hk;rcases hk with rfl | rfl | ⟨q, hq, rfl | hk⟩
 ·exact ⟨h.low.1, h.blk.lt⟩
 ·exact ⟨h.low.2.1, h.map.lt⟩
 ·exact ⟨h.low.2.2 q hq, (h.file q hq).lt⟩
 exact ⟨(h.got q hq).row.base k hk, (h.got q hq).row.lt k hk⟩
theorem aB0.keep (h : aB0 w base g m p room es) (hs : w.heap.size <= w'.heap.size) (hk : ∀ k, aA8 g m es k -> w'.heap[k]? = w.heap[k]?) : aB0 w' base g m p room es :=
 ⟨(hk g (.inl rfl)).trans h.blk, h.map.keep (hk m (.inr (.inl rfl))), fun q hq => (hk q.2.blk (.inr (.inr ⟨q, hq, .inl rfl⟩))).trans (h.file q hq),
  fun q hq => (h.got q hq).kept (fun j hj => hk j (.inr (.inr ⟨q, hq, .inr hj⟩))) hs, h.safe, h.apart, h.low, h.num⟩
theorem aB0.below (h : aB0 w base g m p room es) (hb : Below w.heap.size w w') : aB0 w' base g m p room es :=
 h.keep hb.size fun k hk => hb.block k (h.lt k hk).2
theorem blk_ne {T T' : TypeId} {a b : Nat} {cs cs' : Array Value} (ha : Blk w a T cs) (hb : Blk w b T' cs') (hT : T ≠ T') : a ≠ b := fun e => by
 subst e;have h1 : w.heap[a]? = some (Obj.cells cs T (0, 0)) := ha;have h2 : w.heap[a]? = some (Obj.cells cs' T' (0, 0)) := hb;rw [h1] at h2;injection h2 with h2
 injection h2 with _ h2 _
 exact hT h2
theorem aM3 {P : Program} {k : TypeId} {T : TypeId} {a b : Nat} {cs : Array Value} {l : List (Nm × Nat)} (ha : Blk w a T cs) (hb : aG2 P k w b l) : a ≠ b := fun e => by
 subst e;obtain ⟨es', clock, h1, _⟩ := hb;have h2 : w.heap[a]? = some (Obj.cells cs T (0, 0)) := ha;rw [h1] at h2;cases h2
theorem aF0 {base : Nat} {v : Value} {l : List UInt8} {T : TypeId} {a : Nat} {cs : Array Value} (h : Got w base v l) (hb : Blk w a T cs) (hT : T ≠ 5) : v.ownBlock ≠ some a := fun e => by
 rcases h.row with hv | ⟨g', n, cap, cur, hv, _, hblk, _⟩
 ·rw [hv] at e; cases e
 rw [hv] at e;have e' : g' = a := by simpa [Value.ownBlock] using e
 subst e';exact blk_ne hb hblk hT rfl
theorem aR6 {P : Program} {k : TypeId} {base : Nat} {v : Value} {l : List UInt8} {a : Nat} {fs : List (Nm × Nat)} (h : Got w base v l) (hb : aG2 P k w a fs) : v.ownBlock ≠ some a := fun e => by
 rcases h.row with hv | ⟨g', n, cap, cur, hv, _, hblk, _⟩
 ·rw [hv] at e; cases e
 rw [hv] at e;have e' : g' = a := by simpa [Value.ownBlock] using e
 subst e';exact aM3 hblk hb rfl
theorem aB0.power (h : aB0 w base g m p room es) {p' : PWD} (hg : w.grownBy w' (some g)) (hB : Blk w' g 61 #[.bool p'.off, .bool p'.armed, .int .i64 p'.acts, .int .i64 p'.part, .int .i64 room, .map (some m)])
  (a8 : (-9223372036854775808 <= p'.acts ∧ p'.acts <= 9223372036854775807) ∧ (-9223372036854775808 <= p'.part ∧ p'.part <= 9223372036854775807) ∧ 0 <= room ∧ room <= 9223372036854775807) : aB0 w' base g m p' room es := by
 have a7 : ∀ k, aA8 g m es k -> k ≠ g -> w'.heap[k]? = w.heap[k]? := fun k hk hn => hg.block k (h.lt k hk).2 (fun e => hn (by injection e))
 refine ⟨hB, h.map.keep (a7 m (.inr (.inl rfl)) (fun e => aM3 h.blk h.map e.symm)), fun q hq => (a7 q.2.blk (.inr (.inr ⟨q, hq, .inl rfl⟩)) (fun e => blk_ne h.blk (h.file q hq) (by decide) e.symm)).trans (h.file q hq),
  fun q hq => (h.got q hq).kept (fun j hj => a7 j (.inr (.inr ⟨q, hq, .inr hj⟩)) (fun e => aF0 (h.got q hq) h.blk (by decide) (by rw [hj, e]))) hg.size, h.safe, h.apart, h.low, a8⟩
theorem asPut_mem' {α : Type} {n : Nm} {a : α} {l : List (Nm × α)} {q : Nm × α} (h : q ∈ aB3 n a l) : q = (n, a) ∨ (q ∈ l ∧ q.1 ≠ n) := asPut_mem.1 h
theorem cL6 {α : Type} {n : Nm} {a : α} {l : List (Nm × α)} (hr : aG8 l) (h : aA9 n l = some a) : aB3 n a l = l := by
 induction l with
 | nil => cases h
 | cons y r ih =>
  have a9 : aG8 r := (List.pairwise_cons.1 hr).2;have a7 := (List.pairwise_cons.1 hr).1;unfold aB3 aB6;by_cases hy : y.1 = n
  ·have d8 : y = (n, a) := by
    unfold aA9 at h;rw [List.find?_cons_of_pos (by simp [hy])] at h;simp at h
    rw [<- h, <- hy]
   subst d8;rw [List.filter_cons_of_neg (by simp)];have hf : r.filter (fun p => !(p.1 == n)) = r := by
    rw [List.filter_eq_self];intro q hq;have h1 := a7 q hq;have : q.1 ≠ n := fun e => by
     rw [e, show bytesBefore n n = false from WideAt.bytes_irrefl n] at h1;cases h1
    simp [this]
   rw [hf];cases r with
   | nil => rfl
   | cons z r =>
    unfold asIns;rw [if_pos (a7 z (List.mem_cons_self ..))]
  have h' : aA9 n r = some a := by
   unfold aA9 at h ⊢
   rwa [List.find?_cons_of_neg (by simp [hy])] at h
  have h1 := ih a9 h';rw [List.filter_cons_of_pos (by simp [hy])];have b8 : bytesBefore y.1 n = true := a7 _ (aC7 h');have a8 : ¬ bytesBefore n y.1 = true := fun e => by
   have := WideShapes.bytes_trans _ _ _ b8 e;rw [show bytesBefore y.1 y.1 = false from WideAt.bytes_irrefl y.1] at this;cases this
  unfold asIns;rw [if_neg a8];exact congrArg _ h1
theorem aB0.file_set (h : aB0 w base g m p room es) {n : Nm} {fe : FE} (hn : aA9 n es = some fe) (v : Value) (f : FD) (hs : w.heap.size <= w'.heap.size) (f7 : Blk w' fe.blk 83 #[v, .int .i64 f.safe]) (f8 : Got w' base v f.b) (d8 : f.safe <= f.b.length)
  (b8 : ∀ k, v.ownBlock = some k -> fe.v.ownBlock = some k ∨ w.heap.size <= k) (e9 : ∀ k, k < w.heap.size -> k ≠ fe.blk -> fe.v.ownBlock ≠ some k -> w'.heap[k]? = w.heap[k]?) : aB0 w' base g m p room (aB3 n ⟨fe.blk, v, f⟩ es) := by
 have a7 := aC7 hn;have f9 : sec FE.blk (aB3 n ⟨fe.blk, v, f⟩ es) = sec FE.blk es := by
  rw [aU2];refine cL6 (h.map.rising (string_keyed Tryz.underlying9)) ?_;rw [aJ4, hn]
  rfl
 have a9 : ∀ q ∈ es, q.1 ≠ n -> q.2.blk ≠ fe.blk ∧ ∀ k, q.2.v.ownBlock = some k -> fe.v.ownBlock ≠ some k := fun q hq a8 => h.apart q (n, fe) hq a7 a8
 refine ⟨(e9 g h.blk.lt (blk_ne h.blk (h.file _ a7) (by decide)) (aF0 (h.got _ a7) h.blk (by decide))).trans h.blk, ?_, fun q hq => ?_, fun q hq => ?_, fun q hq => ?_, fun a b ha hb hab => ?_, ⟨h.low.1, h.low.2.1, fun q hq => ?_⟩, h.num⟩
 ·rw [f9]
  exact h.map.keep (e9 m h.map.lt (fun e => aM3 (h.file _ a7) h.map e.symm) (aR6 (h.got _ a7) h.map))
 ·rcases asPut_mem' hq with rfl | ⟨hq, a8⟩
  ·exact f7
  exact (e9 q.2.blk (h.file q hq).lt (a9 q hq a8).1 (aF0 (h.got _ a7) (h.file q hq) (by decide))).trans (h.file q hq)
 ·rcases asPut_mem' hq with rfl | ⟨hq, a8⟩
  ·exact f8
  exact (h.got q hq).kept (fun j hj => e9 j ((h.got q hq).row.lt j hj) (fun e => aF0 (h.got q hq) (h.file _ a7) (by decide) (by rw [hj, e])) (fun e => (a9 q hq a8).2 j hj e)) hs
 ·rcases asPut_mem' hq with rfl | ⟨hq, a8⟩
  ·exact d8
  exact h.safe q hq
 ·rcases asPut_mem' ha with rfl | ⟨ha, han⟩ <;> rcases asPut_mem' hb with rfl | ⟨hb, g6⟩
  ·exact absurd rfl hab
  ·refine ⟨fun e => (a9 b hb g6).1 e.symm, fun k hk hkb => ?_⟩
   rcases b8 k hk with h1 | h1
   ·exact (a9 b hb g6).2 k hkb h1
   have := (h.got b hb).row.lt k hkb; omega
  ·refine ⟨(a9 a ha han).1, fun k hk hkb => ?_⟩
   rcases b8 k hkb with h1 | h1
   ·exact (a9 a ha han).2 k hk h1
   have := (h.got a ha).row.lt k hk; omega
  exact h.apart a b ha hb hab
 rcases asPut_mem' hq with rfl | ⟨hq, a8⟩
 ·exact h.low.2.2 (n, fe) a7
 exact h.low.2.2 q hq
theorem aB0.file_new (h : aB0 w base g m p room es) {n : Nm} (fe : FE) (a7 : ∀ q ∈ es, q.1 ≠ n -> q.2.blk ≠ fe.blk ∧ ∀ k, q.2.v.ownBlock = some k -> fe.v.ownBlock ≠ some k) (hs : w.heap.size <= w'.heap.size) (a9 : Blk w' fe.blk 83 #[fe.v, .int .i64 fe.f.safe]) (d8 : Got w' base fe.v fe.f.b) (a8 : fe.f.safe <= fe.f.b.length)
  (hb : base <= fe.blk) (e9 : aG2 Tryz.prog 9 w' m (aB3 n fe.blk (sec FE.blk es))) (b8 : ∀ k, k < w.heap.size -> k ≠ m -> w'.heap[k]? = w.heap[k]?) : aB0 w' base g m p room (aB3 n fe es) := by
 refine ⟨(b8 g h.blk.lt (fun e => aM3 h.blk h.map e)).trans h.blk, by rw [aU2]; exact e9, fun q hq => ?_, fun q hq => ?_, fun q hq => ?_, fun a b ha hb hab => ?_, ⟨h.low.1, h.low.2.1, fun q hq => ?_⟩, h.num⟩
 ·rcases asPut_mem' hq with rfl | ⟨hq, f7⟩
  ·exact a9
  exact (b8 q.2.blk (h.file q hq).lt (fun e => aM3 (h.file q hq) h.map e)).trans (h.file q hq)
 ·rcases asPut_mem' hq with rfl | ⟨hq, f7⟩
  ·exact d8
  exact (h.got q hq).kept (fun j hj => b8 j ((h.got q hq).row.lt j hj) (fun e => aR6 (h.got q hq) h.map (by rw [hj, e]))) hs
 ·rcases asPut_mem' hq with rfl | ⟨hq, f7⟩
  ·exact a8
  exact h.safe q hq
 ·rcases asPut_mem' ha with rfl | ⟨ha, han⟩ <;> rcases asPut_mem' hb with rfl | ⟨hb, f8⟩
  ·exact absurd rfl hab
  ·exact ⟨fun e => (a7 b hb f8).1 e.symm, fun k hk hkb => (a7 b hb f8).2 k hkb hk⟩
  ·exact ⟨(a7 a ha han).1, (a7 a ha han).2⟩
  exact h.apart a b ha hb hab
 rcases asPut_mem' hq with rfl | ⟨hq, f7⟩
 ·exact hb
 exact h.low.2.2 q hq
theorem aB0.file_del (h : aB0 w base g m p room es) {n : Nm} (hg : w.grownBy w' (some m)) (a8 : aG2 Tryz.prog 9 w' m (aB6 n (sec FE.blk es))) : aB0 w' base g m p room (aB6 n es) := by
 have a7 : ∀ k, k < w.heap.size -> k ≠ m -> w'.heap[k]? = w.heap[k]? := fun k hk hn => hg.block k hk (fun e => hn (by injection e))
 have hm : ∀ q, q ∈ aB6 n es -> q ∈ es := fun q hq => (aI5.1 hq).1
 exact ⟨(a7 g h.blk.lt (fun e => aM3 h.blk h.map e)).trans h.blk, by rw [aZ6]; exact a8, fun q hq => (a7 q.2.blk (h.file q (hm q hq)).lt (fun e => aM3 (h.file q (hm q hq)) h.map e)).trans (h.file q (hm q hq)),
  fun q hq => (h.got q (hm q hq)).kept (fun j hj => a7 j ((h.got q (hm q hq)).row.lt j hj) (fun e => aR6 (h.got q (hm q hq)) h.map (by rw [hj, e]))) hg.size, fun q hq => h.safe q (hm q hq), fun a b ha hb hab => h.apart a b (hm a ha) (hm b hb) hab, ⟨h.low.1, h.low.2.1, fun q hq => h.low.2.2 q (hm q hq)⟩, h.num⟩
theorem dB7 {n : Nm} {k : Nat} (h : aA8 g m (aB6 n es) k) : aA8 g m es k := by
 rcases h with h | h | ⟨q, hq, h⟩
 ·exact .inl h
 ·exact .inr (.inl h)
 exact .inr (.inr ⟨q, (aI5.1 hq).1, h⟩)
theorem bH1 {n : Nm} {fe : FE} {k N : Nat} (h : aA8 g m (aB3 n fe es) k) (hb : fe.blk = k -> aA8 g m es k ∨ N <= k) (hv : fe.v.ownBlock = some k -> aA8 g m es k ∨ N <= k) : aA8 g m es k ∨ N <= k := by
 rcases h with h | h | ⟨q, hq, h⟩
 ·exact .inl (.inl h)
 ·exact .inl (.inr (.inl h))
 rcases asPut_mem' hq with rfl | ⟨hq, _⟩
 ·rcases h with h | h
  ·exact hb h.symm
  exact hv h
 exact .inl (.inr (.inr ⟨q, hq, h⟩))
end
end
section
open Go.RowKit Go.Maps Go.Sort Oct
theorem cA7 : ∀ (es : List (Nm × FE)) (left : Lit -> Bool), aB7 (sec FE.f (aM5 es left)) <= aB7 (sec FE.f es)
 | [], _ => Int.le_refl _
 | q :: r, left => by
  have ih := cA7 r left;unfold aM5 at ih ⊢;rw [List.filter_cons];split
  ·simp only [sec, mG, aB7] at ih ⊢
   omega
  simp only [sec, mG, aB7] at ih ⊢;omega
theorem aX3 (w : World) : (zeroValue 81).run Tryz.prog w = .ok (.pointer none) w := by kernel_rfl
theorem aL8 {w : World} {g : Nat} {t : TypeId} {a b c d e f : Value} (h : Blk w g t #[a, b, c, d, e, f]) : (w.cell? ⟨g, 0, none⟩ = some a ∧ w.cell? ⟨g, 1, none⟩ = some b ∧ w.cell? ⟨g, 2, none⟩ = some c ∧ w.cell? ⟨g, 3, none⟩ = some d ∧ w.cell? ⟨g, 4, none⟩ = some e ∧ w.cell? ⟨g, 5, none⟩ = some f) ∧
  w.frozen? ⟨g, 0, none⟩ = false ∧ w.frozen? ⟨g, 1, none⟩ = false ∧ w.frozen? ⟨g, 2, none⟩ = false ∧ w.frozen? ⟨g, 3, none⟩ = false :=
 ⟨⟨h.cell 0, h.cell 1, h.cell 2, h.cell 3, h.cell 4, h.cell 5⟩, h.frozen 0, h.frozen 1, h.frozen 2, h.frozen 3⟩
def aB4 (w : World) (base g m : Nat) (es : List (Nm × FE)) (d : DkD) (w' : World) : Prop := ∃ es', aB0 w' base g m d.pw d.room es' ∧ sec FE.f es' = d.fs ∧ Fr (aA8 g m es) w w' ∧ ∀ k, aA8 g m es' k -> aA8 g m es k ∨ w.heap.size <= k
abbrev aD2 (p : PWD) (room : Int) (es : List (Nm × FE)) : DkD := ⟨p, room, sec FE.f es⟩
theorem aB4.mk' {w w' : World} {base g m : Nat} {p : PWD} {room : Int} {es : List (Nm × FE)} (h : aB0 w' base g m p room es) (hf : Fr (aA8 g m es) w w') : aB4 w base g m es (aD2 p room es) w' := ⟨es, h, rfl, hf, fun k hk => .inl hk⟩
theorem aB0.drewN_ {w : World} {base g m : Nat} {p : PWD} {room : Int} {es : List (Nm × FE)} (h : aB0 w base g m p room es) (k : Nat) : aB0 (w.drewN k) base g m p room es := h.keep (lR _) fun _ _ => rfl
theorem Fr.drewN_ {mine : Nat -> Prop} {w w' : World} (h : Fr mine w w') (k : Nat) : Fr mine w (w'.drewN k) := ⟨h.os, h.tape, h.output, h.size, h.block⟩
theorem cI6 (room : Int) (hr : -9223372036854775808 <= room ∧ room <= 9223372036854775807) (w : World) :
  Calls Tryz.prog 8 #[.int .i64 room] w fun e w' => e = .returned (.pointer (some ⟨w.heap.size + 1, 0, none⟩)) ∧ aB0 w' w.heap.size (w.heap.size + 1) w.heap.size ⟨false, false, 0, 0⟩ (max room 0) [] ∧ Below w.heap.size w w' := by
 have a9 := @run_makeMap Tryz.prog;have HR := qZ hr;have a8 : ∀ r : Int, 0 <= r -> r <= 9223372036854775807 -> aB0 ((w.alloc (.map #[] 0)).alloc (.cells #[.bool false, .bool false, .int .i64 0, .int .i64 0, .int .i64 r, .map (some w.heap.size)] 61)) w.heap.size (w.heap.size + 1) w.heap.size ⟨false, false, 0, 0⟩ r [] := fun r h0 h1 => by
  have hs : (w.alloc (.map #[] 0)).heap.size = w.heap.size + 1 := by simp
  have hB := Blk.new (w.alloc (.map #[] 0)) 61 #[.bool false, .bool false, .int .i64 0, .int .i64 0, .int .i64 r, .map (some w.heap.size)];rw [hs] at hB;exact ⟨hB, (aG2.made Tryz.prog 9 w).keep (Below.heap_alloc _ _ _ (by rw [hs]; omega)), fun q hq => (by cases hq), fun q hq => (by cases hq), fun q hq => (by cases hq), fun a b ha => (by cases ha), ⟨by omega, by omega, fun q hq => (by cases hq)⟩, ⟨by decide, by decide⟩, ⟨by decide, by decide⟩, h0, h1⟩
 have HF := qZ a8;have HB : ∀ r : Int, Hid (Below w.heap.size w ((w.alloc (.map #[] 0)).alloc (.cells #[.bool false, .bool false, .int .i64 0, .int .i64 0, .int .i64 r, .map (some w.heap.size)] 61))) := fun r => qZ (((lS _ w).alloc (lR _) _).alloc (by simp) _)
 clear hr a8;rcases Int.lt_or_le room 0 with h0 | h0
 ·have e : max room 0 = 0 := by omega
  rw [e];have a7 := HB 0;have HE := qZ e;clear HB e;go_enter Tryz.func8, Tryz.ntmps8
  go_wp2;go_ret
  first | exact ⟨rfl, HF.out 0 (Int.le_refl _) (by omega), a7.out⟩ | (rw [HE.out]; exact ⟨rfl, HF.out 0 (Int.le_refl _) (by omega), a7.out⟩)
 have e : max room 0 = room := by omega
 rw [e];have a7 := HB room;have h1 := HR.out.2;have HE := qZ e;clear HB e;go_enter Tryz.func8, Tryz.ntmps8
 go_wp2;go_ret
 first | exact ⟨rfl, HF.out room h0 h1, a7.out⟩ | (rw [HE.out]; exact ⟨rfl, HF.out room h0 h1, a7.out⟩)
theorem bA0 {w : World} {base g m : Nat} {p : PWD} {room : Int} {es : List (Nm × FE)} (h : aB0 w base g m p room es) :
  Calls Tryz.prog 31 #[.pointer (some ⟨g, 0, none⟩)] w fun e w' => e = .returned (.tuple #[.bool p.cut.1, .int .i64 p.cut.2.1]) ∧ aB0 w' base g m p.cut.2.2 room es ∧ Fr (aA8 g m es) w w' ∧ w'.heap.size = w.heap.size := by
 obtain ⟨⟨c0, c1, c2, c3, c4, c5⟩, f0, f1, f2, f3⟩ := aL8 h.blk;have H := qZ h;obtain ⟨⟨ha, a8⟩, a9, b8⟩ := h.num;have HN := qZ (And.intro a9 b8);clear a9 b8;obtain ⟨off, armed, acts, part⟩ := p;simp only at c0 c1 c2 c3 ha a8;clear h;cases armed with
 | false =>
  go_enter Tryz.func31, Tryz.ntmps31
  go_wp2;go_ret2
  exact ⟨rfl, H.out, Fr.refl _ _, rfl⟩
 | true =>
  by_cases hp : 0 < acts
  ·have a7 := aA0 w g 2 (.int .i64 (acts - 1))
   have e : PWD.cut ⟨off, true, acts, part⟩ = (false, 0, ⟨off, true, acts - 1, part⟩) := by simp [PWD.cut, hp]
   have HD : Hid (aB0 (w.setCell ⟨g, 2, none⟩ (.int .i64 (acts - 1))) base g m ⟨off, true, acts - 1, part⟩ room es) := qZ (H.out.power a7 (Blk.set_ H.out.blk 2 _) ⟨⟨by show _ <= acts - 1; omega, by show acts - 1 <= _; omega⟩, HN.out⟩);have HF : Hid (Fr (aA8 g m es) w (w.setCell ⟨g, 2, none⟩ (.int .i64 (acts - 1)))) := qZ (Fr.of_grown a7 (fun k e => by injection e with e; exact .inl e.symm));rw [e];clear a7 e;go_enter Tryz.func31, Tryz.ntmps31
   go_wp2;go_ret2
   exact ⟨rfl, HD.out, HF.out, by simp⟩
  have a7 := aB8 (aA0 w g 1 (.bool false)) (aA0 (w.setCell ⟨g, 1, none⟩ (.bool false)) g 0 (.bool true)) (.inl rfl);have e : PWD.cut ⟨off, true, acts, part⟩ = (true, part, ⟨true, false, acts, part⟩) := by simp [PWD.cut, hp]
  have HD : Hid (aB0 ((w.setCell ⟨g, 1, none⟩ (.bool false)).setCell ⟨g, 0, none⟩ (.bool true)) base g m ⟨true, false, acts, part⟩ room es) := qZ (H.out.power a7 (Blk.set_ (Blk.set_ H.out.blk 1 _) 0 _) ⟨⟨ha, a8⟩, HN.out⟩);have HF : Hid (Fr (aA8 g m es) w ((w.setCell ⟨g, 1, none⟩ (.bool false)).setCell ⟨g, 0, none⟩ (.bool true))) := qZ (Fr.of_grown a7 (fun k e => by injection e with e; exact .inl e.symm));rw [e];clear a7 e;go_enter Tryz.func31, Tryz.ntmps31
  go_wp2;go_quiet (fail);go_wp2;go_ret2
  exact ⟨rfl, HD.out.drewN_ _, HF.out.drewN_ _, by simp⟩
theorem dI8 {w : World} {base g m : Nat} {p : PWD} {room : Int} {es : List (Nm × FE)} (h : aB0 w base g m p room es) :
  Calls Tryz.prog 45 #[.pointer (some ⟨g, 0, none⟩)] w fun e w' => e = .returned (.bool (! p.off)) ∧ w = w' := by
 obtain ⟨⟨c0, c1, c2, c3, c4, c5⟩, f0, f1, f2, f3⟩ := aL8 h.blk;clear h;go_enter Tryz.func45, Tryz.ntmps45
 go_wp2;go_ret
 exact ⟨rfl, rfl⟩
def bC8 (n : Nm) : Bool := ! n.isEmpty && decide (n.length <= 32)
theorem bX4 (s : ByteArray) (w : World) (hs : s.size <= 140737488351232) : Calls Tryz.prog 28 #[.string s] w fun e w' => e = .returned (.bool (bC8 s.data.toList)) ∧ w = w' := by
 have a7 : s.data.toList.length = s.size := by simp
 by_cases h0 : s.data.toList = []
 ·have e : bC8 s.data.toList = false := by simp [bC8, h0]
  rw [e];obtain ⟨⟨l⟩⟩ := s;simp only at h0;subst h0;clear e a7 hs;go_enter Tryz.func28, Tryz.ntmps28
  go_wp2;go_ret
  exact ⟨rfl, rfl⟩
 have a9 : s.toList.isEmpty = false := by
  rw [toList_eq];exact List.isEmpty_eq_false_iff.2 h0
 by_cases h1 : s.size <= 32
 ·have e : bC8 s.data.toList = true := by simp [bC8]; exact ⟨by simpa using h0, h1⟩
  have a8 : (s.size : Int) <= 32 := by omega
  rw [e];clear e h0 a7;go_enter Tryz.func28, Tryz.ntmps28
  go_wp2;go_ret
  exact ⟨rfl, rfl⟩
 have e : bC8 s.data.toList = false := by simp [bC8]; intro _; show 32 < s.size; omega
 have a8 : ¬ (s.size : Int) <= 32 := by omega
 rw [e];clear e h0 a7;go_enter Tryz.func28, Tryz.ntmps28
 go_wp2;go_ret
 exact ⟨rfl, rfl⟩
theorem cI5 (n k : Int) (hn : -9223372036854775808 <= n ∧ n <= 9223372036854775807) (hk : 1 <= k ∧ k <= 4611686018427387904) (w : World) : Calls Tryz.prog 32 #[.int .i64 n, .int .i64 k] w fun e w' => e = .returned (.int .i64 (n % k)) ∧ w = w' := by
 obtain ⟨a8, a9⟩ := hk;have h1 : -k < n.tmod k := by have := Int.lt_tmod_of_pos n (show 0 < k by omega); omega
 have h2 : n.tmod k < k := Int.tmod_lt_of_pos n (by omega);have h3 : (n.tmod k + k) % k = n % k := by
  rw [Int.add_emod_right];have h5 := Int.mul_tdiv_add_tmod n k;have h6 : n.tmod k = n + (-(n.tdiv k)) * k := by rw [Int.neg_mul, Int.mul_comm]; omega
  rw [h6, Int.add_mul_emod_self_right]
 have H3 := qZ h3;have a7 : ¬ k = 0 := by omega
 clear h3 hn;go_enter Tryz.func32, Tryz.ntmps32
 go_wp2;go_ret
 exact ⟨by rw [H3.out]; rfl, rfl⟩
theorem aR4 {w : World} {base g m : Nat} {p : PWD} {room : Int} {es : List (Nm × FE)} (h : aB0 w base g m p room es) (s : ByteArray) (hs : s.size <= 140737488351232) {fe : FE} (hf : aA9 s.data.toList es = some fe) (ho : p.off = false) :
  Calls Tryz.prog 106 #[.pointer (some ⟨g, 0, none⟩), .string s] w fun e w' => e = .returned (.tuple #[.pointer (some ⟨fe.blk, 0, none⟩), .int .i64 0]) ∧ w = w' := by
 obtain ⟨⟨c0, c1, c2, c3, c4, c5⟩, f0, f1, f2, f3⟩ := aL8 h.blk;have hl := h.map.get Tryz.underlying9 Tryz.underlying59 (aX3 w) s (by unfold maxLen; omega);rw [aJ4, hf] at hl;have a7 : (Instr.lookup 59 (.map (some m)) (.string s) false).run Tryz.prog w = .ok (.pointer (some ⟨fe.blk, 0, none⟩)) w := hl;rw [ho] at c0;clear h hl hf ho;go_enter Tryz.func106, Tryz.ntmps106
 go_wp2;go_ret2
 exact ⟨rfl, rfl⟩
theorem aV4 {w : World} {base g m : Nat} {p : PWD} {room : Int} {es : List (Nm × FE)} (h : aB0 w base g m p room es) (s : ByteArray) (hs : s.size <= 140737488351232) (hf : aA9 s.data.toList es = none) (ho : p.off = false) :
  Calls Tryz.prog 106 #[.pointer (some ⟨g, 0, none⟩), .string s] w fun e w' => e = .returned (.tuple #[.pointer none, .int .i64 51]) ∧ w = w' := by
 obtain ⟨⟨c0, c1, c2, c3, c4, c5⟩, f0, f1, f2, f3⟩ := aL8 h.blk;have hl := h.map.get Tryz.underlying9 Tryz.underlying59 (aX3 w) s (by unfold maxLen; omega);rw [aJ4, hf] at hl;have a7 : (Instr.lookup 59 (.map (some m)) (.string s) false).run Tryz.prog w = .ok (.pointer none) w := hl;rw [ho] at c0;clear h hl hf ho;go_enter Tryz.func106, Tryz.ntmps106
 go_wp2;go_ret2
 exact ⟨rfl, rfl⟩
theorem aV3 {w : World} {base g m : Nat} {p : PWD} {room : Int} {es : List (Nm × FE)} (h : aB0 w base g m p room es) (s : ByteArray) (hs : s.size <= 140737488351232) (ho : p.off = true) :
  Calls Tryz.prog 106 #[.pointer (some ⟨g, 0, none⟩), .string s] w fun e w' => e = .returned (.tuple #[.pointer none, .int .i64 50]) ∧ w = w' := by
 obtain ⟨⟨c0, c1, c2, c3, c4, c5⟩, f0, f1, f2, f3⟩ := aL8 h.blk;have hl := h.map.get Tryz.underlying9 Tryz.underlying59 (aX3 w) s (by unfold maxLen; omega);rw [ho] at c0;clear h ho;go_enter Tryz.func106, Tryz.ntmps106
 go_wp2;go_ret2
 exact ⟨rfl, rfl⟩
theorem bH2 {w : World} {base g m : Nat} {p : PWD} {room : Int} {es : List (Nm × FE)} (h : aB0 w base g m p room es) (m0 : aB7 (sec FE.f es) <= 4611686018427387904) :
  Calls Tryz.prog 29 #[.pointer (some ⟨g, 0, none⟩)] w fun e w' => e = .returned (.int .i64 (room - aB7 (sec FE.f es))) ∧ Below w.heap.size w w' := by
 obtain ⟨⟨c0, c1, c2, c3, c4, c5⟩, f0, f1, f2, f3⟩ := aL8 h.blk;have H := qZ h;obtain ⟨_, _, l7, l8⟩ := h.num;clear h;go_enter Tryz.func29, Tryz.ntmps29
 go_wp2_with (refine bG7 rfl (.tmp 13) 59 rfl Tryz.underlying9 Tryz.underlying59 H.out.map rfl ?_; intro w1 left g8 b8 g7 l5)
 have g9 : aM5 es left = es := by
  unfold aM5;rw [List.filter_eq_self];exact fun q hq => b8 (q.1, q.2.blk) (List.mem_map.2 ⟨q, hq, rfl⟩)
 have f9 := qZ g9;have f8 := qZ g8;have f7 := qZ (aG5 g7);have l9 := aE5 (sec FE.f es);clear g9 g8 g7 b8 l5 c0 c1 c2 c3 c4 c5 f0 f1 f2 f3;go_frame
 go_loopw [3, 5] (fun n f wr => ∃ (left : Lit -> Bool) (cnt : Nat), n = .int .i64 (room - aB7 (sec FE.f es) + aB7 (sec FE.f (aM5 es left))) ∧ Hid (aY3 Tryz.prog 9 wr m w.heap.size (sec FE.blk es) left cnt) ∧ Hid (Below w.heap.size w wr)) (fun _ _ wr => wr.rangeLeft m w.heap.size)
 case atStart => exact ⟨left, _, by rw [f9.out]; go_num, f8, f7⟩
 obtain ⟨left, cnt, rfl, hR, hB⟩ := hrel;clear f8 f7 f9;have j9 := aE5 (sec FE.f (aM5 es left));have j8 : aB7 (sec FE.f (aM5 es left)) <= aB7 (sec FE.f es) := cA7 es left;have e9 := H.out.rising;go_wp2_with (refine bN7 rfl (.tmp 14) rfl Tryz.underlying9 hR.out rfl (fun hdone => Hid.out ?_) (fun s fb w2 cnt2 hfb hleft hra2 hlt2 hg2 hs2 hen => Hid.out ?_))
 ·refine qZ ?_
  have hz : aM5 es left = [] := by
   unfold aM5;rw [List.filter_eq_nil_iff];intro q _;rw [hdone]; simp
  have e : room - aB7 (sec FE.f es) + aB7 (sec FE.f (aM5 es left)) = room - aB7 (sec FE.f es) := by rw [hz]; simp [aB7]
  rw [e];clear hz e hdone hR j9 j8 e9;go_wp2;go_ret
  exact ⟨rfl, hB.out⟩
 refine qZ ?_;rw [aJ4, Option.map_eq_some_iff] at hfb;obtain ⟨fe, d8, rfl⟩ := hfb;have a9 := aC7 d8;have hK : Blk w fe.blk 83 #[fe.v, .int .i64 fe.f.safe] := H.out.file _ a9;have j6 : fe.blk < w.heap.size := hK.lt;have g6 : Blk w2 fe.blk 83 #[fe.v, .int .i64 fe.f.safe] := (hg2.block fe.blk (by have := hB.out.size; omega) (fun e => by injection e with e; omega)).trans ((hB.out.block fe.blk j6).trans hK);obtain ⟨A, c, hv, _, _, _⟩ := (H.out.got _ a9).shape;have c0 := g6.cell 0;have i1 : fe.v = .slice A fe.f.b.length c := hv;simp only [i1] at c0;have l6 : w2.cell? ⟨fe.blk, 0, none⟩ = some (.slice A fe.f.b.length c) := c0;have a8 : aB7 (sec FE.f (aM5 es left)) = (fe.f.b.length : Int) + aB7 (sec FE.f (aM5 es (fun z => left z && ! z.sameKey (.string s.data.toList)))) := by
  have h1 := cG7 e9 d8 hleft;have h2 := cP4 (h1.map fun q => (q.1, q.2.f));exact h2
 have HS := qZ a8;have l4 := aE5 (sec FE.f (aM5 es (fun z => left z && ! z.sameKey (.string s.data.toList))));have i3 := qZ hra2;have i2 := qZ (hB.out.grown hg2 hB.out.size (fun k hk => by injection hk with hk; omega));have a7 : w2.rangeLeft m w.heap.size < wr.rangeLeft m w.heap.size := by rw [World.ranges.left_eq hra2, World.ranges.left_eq hR.out]; exact hlt2
 have i4 : (fe.f.b.length : Int) <= aB7 (sec FE.f es) := by omega
 have i6 : (fe.f.b.length : Int) <= aB7 (sec FE.f (aM5 es left)) := by omega
 have HM := qZ a7;clear a8 hra2 hg2 d8 hK g6 c0 hv i1 a9 hlt2 hs2 hleft e9 a7 hR hB;go_wp2;go_roundw
 case rel => exact ⟨_, cnt2, by rw [HS.out]; go_num, i3, i2⟩
 case measure => exact HM.out
end
section
open Go.RowKit Go.Maps Go.Sort Oct
theorem bR8 {P : Program} {k e : TypeId} {w : World} {m : Nat} {l : List (Nm × Nat)} {o : Oper} {a : Act} {K : Act -> World -> Prop} {Q : Exit -> Act -> World -> Prop} (mo xo : Operand) (t : TypeId) (a8 : o.op = Op.call { callee := Callee.builtin Builtin.delete, args := #[mo, xo], argTypes := #[t, k] }) (hk : P.underlying k = some .string) (ht : P.underlying t = some (.map k e)) (h : aG2 P k w m l) (s : ByteArray) (hs : s.size <= maxLen)
  (hm : a.eval mo = .map (some m)) (hx : a.eval xo = .string s) (hK : ∀ w', aG2 P k w' m (aB6 s.data.toList l) -> w.grownBy w' (some m) -> K (a.put o.dst (.tuple #[])) w') : o.wp P a w K Q := by
 obtain ⟨w', a7, r1, r2⟩ := h.del hk ht s hs o.type;unfold Oper.wp;simp [execOp, a8, resolve, invoke, builtin, hm, hx, a7, Result.andThen]
 exact hK w' r1 r2
section
variable {w w1 w2 w' : World} {base g m : Nat} {p p' : PWD} {room : Int} {es : List (Nm × FE)}
theorem aR5 {n : Nm} {fe : FE} (h : aA9 n es = some fe) : aA8 g m es fe.blk := .inr (.inr ⟨_, aC7 h, .inl rfl⟩)
theorem bS9 {n : Nm} {fe : FE} (h : aA9 n es = some fe) {k : Nat} (hk : fe.v.ownBlock = some k) : aA8 g m es k := .inr (.inr ⟨_, aC7 h, .inr hk⟩)
theorem aB4.file_set (h1 : aB0 w1 base g m p' room es) (hf1 : Fr (aA8 g m es) w w1) {n : Nm} {fe : FE} (hn : aA9 n es = some fe) (v : Value) (f : FD) (hs : w1.heap.size <= w2.heap.size) (hblk : Blk w2 fe.blk 83 #[v, .int .i64 f.safe]) (hgot : Got w2 base v f.b) (hsafe : f.safe <= f.b.length)
  (hrow : ∀ k, v.ownBlock = some k -> fe.v.ownBlock = some k ∨ w1.heap.size <= k) (hfr : ∀ k, k < w1.heap.size -> k ≠ fe.blk -> fe.v.ownBlock ≠ some k -> w2.heap[k]? = w1.heap[k]?) (hos : w2.os = w1.os ∧ w2.tape = w1.tape ∧ w2.output = w1.output) :
  aB4 w base g m es ⟨p', room, aB3 n f (sec FE.f es)⟩ w2 :=
 ⟨aB3 n ⟨fe.blk, v, f⟩ es, h1.file_set hn v f hs hblk hgot hsafe hrow hfr, by rw [aU2], hf1.trans ⟨hos.1, hos.2.1, hos.2.2, hs, fun k hk hm => hfr k hk (fun e => hm (by rw [e]; exact aR5 hn)) (fun e => hm (bS9 hn e))⟩ (fun j hj => .inl hj),
  fun k hk => bH1 hk (fun e => .inl (by have e' : fe.blk = k := e; rw [<- e']; exact aR5 hn)) (fun e => by
   rcases hrow k e with h2 | h2
   ·exact .inl (bS9 hn h2)
   exact .inr (Nat.le_trans hf1.size h2))⟩
theorem aY6 {n : Nm} (h : aA9 n es = none) : aA9 n (sec FE.f es) = none := by rw [aJ4, h]; rfl
theorem aL6 {n : Nm} {fe : FE} (h : aA9 n es = some fe) : aA9 n (sec FE.f es) = some fe.f := by rw [aJ4, h]; rfl
theorem cS4 (h : aB0 w base g m p room es) (s : ByteArray) (hs : s.size <= 140737488351232) :
  Calls Tryz.prog 110 #[.pointer (some ⟨g, 0, none⟩), .string s] w fun e w' => e = .returned (.int .i64 ((aD2 p room es).sync s.data.toList).1) ∧ aB4 w base g m es ((aD2 p room es).sync s.data.toList).2 w' := by
 have H := qZ h;by_cases ho : p.off = true
 ·have e : (aD2 p room es).sync s.data.toList = (50, aD2 p room es) := by unfold DkD.sync; rw [if_pos ho]
  rw [e];have a7 := qZ (aV3 h s hs ho);clear h e;go_enter Tryz.func110, Tryz.ntmps110
  go_wp2_with fail
  refine a7.out.mono ?_;rintro e w' ⟨rfl, rfl⟩;go_wp2_with fail
  go_ret
  exact ⟨rfl, aB4.mk' H.out (Fr.refl _ _)⟩
 have e9 : p.off = false := by simpa using ho
 cases hg : aA9 s.data.toList es with
 | none =>
  have e : (aD2 p room es).sync s.data.toList = (51, aD2 p room es) := by unfold DkD.sync; rw [if_neg ho]; simp only [aY6 hg]
  rw [e];have a7 := qZ (aV4 h s hs hg e9);clear h e;go_enter Tryz.func110, Tryz.ntmps110
  go_wp2_with fail
  refine a7.out.mono ?_;rintro e w' ⟨rfl, rfl⟩;go_wp2_with fail
  go_ret
  exact ⟨rfl, aB4.mk' H.out (Fr.refl _ _)⟩
 | some fe =>
  obtain ⟨c, hc⟩ : ∃ c, c = p.cut := ⟨_, rfl⟩
  obtain ⟨f8, part, p'⟩ := c;have a7 := qZ (aR4 h s hs hg e9);have hcut := qZ (bA0 h);rw [<- hc] at hcut;cases f8 with
  | true =>
   have e : (aD2 p room es).sync s.data.toList = (50, aD2 p' room es) := by unfold DkD.sync; rw [if_neg ho]; simp only [aL6 hg]; rw [<- hc]; rfl
   rw [e];clear h e ho e9 hg hc;go_enter Tryz.func110, Tryz.ntmps110
   go_wp2_with fail
   refine a7.out.mono ?_;rintro e w' ⟨rfl, rfl⟩;go_wp2_with fail
   refine hcut.out.mono ?_;rintro e w1 ⟨rfl, hD, hF, f9⟩;have HD := qZ (aB4.mk' hD hF);clear hD hF f9 a7 hcut;go_wp2_with fail
   go_ret
   exact ⟨rfl, HD.out⟩
  | false =>
   have e : (aD2 p room es).sync s.data.toList = (0, ⟨p', room, aB3 s.data.toList ⟨fe.f.b, fe.f.b.length⟩ (sec FE.f es)⟩) := by unfold DkD.sync; rw [if_neg ho]; simp only [aL6 hg]; rw [<- hc]; rfl
   rw [e];have HG := qZ hg;clear h e ho e9 hg hc;go_enter Tryz.func110, Tryz.ntmps110
   go_wp2_with fail
   refine a7.out.mono ?_;rintro e w' ⟨rfl, rfl⟩;go_wp2_with fail
   refine hcut.out.mono ?_;rintro e w1 ⟨rfl, hD, hF, f9⟩;have a8 := aC7 HG.out;have hK : Blk w1 fe.blk 83 #[fe.v, .int .i64 fe.f.safe] := hD.file _ a8;have d8 : Got w1 base fe.v fe.f.b := hD.got _ a8;obtain ⟨A, c, hv, _, _, _⟩ := d8.shape;have c0 : w1.cell? ⟨fe.blk, 0, none⟩ = some fe.v := hK.cell 0;have c1 : w1.cell? ⟨fe.blk, 1, none⟩ = some (.int .i64 fe.f.safe) := hK.cell 1;have f1 := hK.frozen 1;rw [hv] at c0;have b8 := aA0 w1 fe.blk 1 (.int .i64 (fe.f.b.length : Int));have a9 : aB4 w base g m es ⟨p', room, aB3 s.data.toList ⟨fe.f.b, fe.f.b.length⟩ (sec FE.f es)⟩ (w1.setCell ⟨fe.blk, 1, none⟩ (.int .i64 (fe.f.b.length : Int))) :=
    aB4.file_set hD hF HG.out fe.v ⟨fe.f.b, fe.f.b.length⟩ (by simp) (Blk.set_ hK 1 _) (d8.kept (fun q hq => Below.heap_setCell w1 _ _ q (fun e => aF0 d8 hK (by decide) (by rw [hq, e]))) (by simp)) (lR _) (fun k hk => .inl hk) (fun k hk h1 h2 => Below.heap_setCell w1 _ _ k (fun e => h1 e)) ⟨b8.os, b8.tape, b8.output⟩
   have f7 := qZ a9;clear a9 hD hF hK d8 hv a8 f9 b8 a7 hcut;go_wp2_with fail
   go_ret
   exact ⟨rfl, f7.out⟩
theorem bJ1 (h : aB0 w base g m p room es) (s : ByteArray) (hs : s.size <= 140737488351232) (a9 : ∀ q ∈ es, q.2.f.b.length <= 140737488351232) :
  Calls Tryz.prog 69 #[.pointer (some ⟨g, 0, none⟩), .string s] w fun e w' => ∃ v, e = .returned (.tuple #[v, .int .i64 ((aD2 p room es).read s.data.toList).2]) ∧ Bs w' w.heap.size v ((aD2 p room es).read s.data.toList).1 ∧ Below w.heap.size w w' := by
 by_cases ho : p.off = true
 ·have e : (aD2 p room es).read s.data.toList = ([], 50) := by unfold DkD.read; rw [if_pos ho]
  rw [e];have a7 := qZ (aV3 h s hs ho);clear h e;go_enter Tryz.func69, Tryz.ntmps69
  go_wp2_with fail
  refine a7.out.mono ?_;rintro e w' ⟨rfl, rfl⟩;go_wp2_with fail
  go_ret2
  exact ⟨_, rfl, Own.nil _ _ _, lS _ _⟩
 have b8 : p.off = false := by simpa using ho
 cases hg : aA9 s.data.toList es with
 | none =>
  have e : (aD2 p room es).read s.data.toList = ([], 51) := by unfold DkD.read; rw [if_neg ho]; simp only [aY6 hg]
  rw [e];have a7 := qZ (aV4 h s hs hg b8);clear h e;go_enter Tryz.func69, Tryz.ntmps69
  go_wp2_with fail
  refine a7.out.mono ?_;rintro e w' ⟨rfl, rfl⟩;go_wp2_with fail
  go_ret2
  exact ⟨_, rfl, Own.nil _ _ _, lS _ _⟩
 | some fe =>
  have e : (aD2 p room es).read s.data.toList = (fe.f.b, 0) := by unfold DkD.read; rw [if_neg ho]; simp only [aL6 hg]
  rw [e];have a7 := qZ (aR4 h s hs hg b8);have a8 := aC7 hg;have hK : Blk w fe.blk 83 #[fe.v, .int .i64 fe.f.safe] := h.file _ a8;obtain ⟨A, c, hv, f9, g6, f7⟩ := (h.got _ a8).shape;have f8 : fe.v = .slice A fe.f.b.length c := hv;have c0 : w.cell? ⟨fe.blk, 0, none⟩ = some fe.v := hK.cell 0;rw [f8] at c0;have hl := a9 _ a8;have e9 := qZ (aU7 A fe.f.b fe.f.b.length c rfl w f7 hl);clear h e ho b8 hg hK hv f8 f7 a9 a8 hl;go_enter Tryz.func69, Tryz.ntmps69
  go_wp2_with fail
  refine a7.out.mono ?_;rintro e w' ⟨rfl, rfl⟩;go_wp2_with fail
  refine e9.out.mono ?_;rintro e w1 ⟨v, rfl, d8, hb⟩;obtain ⟨A1, c1, rfl, _, _, _⟩ := aD5 d8;have HV := qZ (And.intro d8 hb);clear d8 hb e9 a7;go_wp2_with fail
  go_ret2
  exact ⟨_, rfl, HV.out.1, HV.out.2⟩
end
end
section
open Go.RowKit Go.Maps Go.Sort Oct
theorem cH1 {P : Program} {k e : TypeId} {w : World} {m : Nat} {l : List (Nm × Nat)} {o : Oper} {a : Act} {K : Act -> World -> Prop} {Q : Exit -> Act -> World -> Prop} (mo xo vo : Operand) (t : TypeId) (hop : o.op = Op.mapUpdate t mo xo vo) (hk : P.underlying k = some .string) (ht : P.underlying t = some (.map k e)) (h : aG2 P k w m l) (hn : l.length < maxLen) (s : ByteArray) (hs : s.size <= maxLen) (g : Nat)
  (hm : a.eval mo = .map (some m)) (hx : a.eval xo = .string s) (hv : a.eval vo = .pointer (some ⟨g, 0, none⟩)) (hK : ∀ w', aG2 P k w' m (aB3 s.data.toList g l) -> w.grownBy w' (some m) -> K (a.put o.dst undef) w') : o.wp P a w K Q := bR9 mo xo vo t hop hk ht h hn s hs g hm hx hv hK
section
variable {w w1 w2 w' : World} {base g m : Nat} {p p' : PWD} {room : Int} {es : List (Nm × FE)}
theorem aB0.deleted (h : aB0 w base g m p room es) {n : Nm} (hg : w.grownBy w' (some m)) (hm : aG2 Tryz.prog 9 w' m (aB6 n (sec FE.blk es))) : aB0 w' base g m p room (aB6 n es) ∧ Fr (aA8 g m es) w w' :=
 ⟨h.file_del hg hm, Fr.of_grown hg (fun k e => by injection e with e; exact .inr (.inl e.symm))⟩
theorem bX5 (h : aB0 w base g m p room es) (s : ByteArray) (hs : s.size <= 140737488351232) (b1 b2 : Nat) (h1 : Blk w b1 26 #[.pointer (some ⟨g, 0, none⟩)]) (h2 : Blk w b2 9 #[.string s]) :
  Calls Tryz.prog 142 #[.pointer (some ⟨b1, 0, none⟩), .pointer (some ⟨b2, 0, none⟩)] w fun e w' => e = .returned (.tuple #[]) ∧ aB0 w' base g m p room (aB6 s.data.toList es) ∧ Fr (aA8 g m es) w w' := by
 obtain ⟨⟨c0, c1, c2, c3, c4, c5⟩, f0, f1, f2, f3⟩ := aL8 h.blk;have e1 : w.cell? ⟨b1, 0, none⟩ = some (.pointer (some ⟨g, 0, none⟩)) := h1.cell 0;have e2 : w.cell? ⟨b2, 0, none⟩ = some (.string s) := h2.cell 0;have HM := qZ h.map;have H := qZ h;have a9 := qZ (show b1 ≠ m ∧ b2 ≠ m ∧ g ≠ m from ⟨aM3 h1 h.map, aM3 h2 h.map, aM3 h.blk h.map⟩);clear h h1 h2;go_enter Tryz.func142, Tryz.ntmps142
 refine wp_region_held_drew (S := fun W => W.cell? ⟨b1, 0, none⟩ = some (.pointer (some ⟨g, 0, none⟩)) ∧ W.cell? ⟨b2, 0, none⟩ = some (.string s) ∧ W.cell? ⟨g, 5, none⟩ = some (.map (some m)) ∧ True) (by kernel_rfl) ⟨e1, e2, c5, trivial⟩ (fun hHeld => ?_);refine zT 0 (k := ?_);refine zT 1 (k := ?_);refine zT 2 (k := ?_);refine zT 3 (k := ?_);refine zT 4 (k := ?_);simp only [zA, zB, zF, zG, zC, zD, zE];refine zV 5 (k := fun K hK => ?_);simp only [zA, zB];rw [if_pos (by rfl)];refine bR8 (.tmp 5) (.tmp 6) 59 rfl Tryz.underlying9 Tryz.underlying59 HM.out s (by unfold maxLen; omega) rfl rfl ?_;intro w1 b8 a7;have a8 : w.grownBy w1 (some m) := ⟨a7.os, a7.tape, a7.output, a7.size, a7.block⟩;have HD := qZ (H.out.deleted a8 b8);refine hK.out _ _ ⟨(World.cell?_of_block (a8.block b1 (mI w ⟨b1, 0, none⟩ e1) (fun e => by injection e with e; exact a9.out.1 e))).trans e1, (World.cell?_of_block (a8.block b2 (mI w ⟨b2, 0, none⟩ e2) (fun e => by injection e with e; exact a9.out.2.1 e))).trans e2, (World.cell?_of_block (a8.block g (mI w ⟨g, 5, none⟩ c5) (fun e => by injection e with e; exact a9.out.2.2 e))).trans c5, trivial⟩ (fun hHeld => ?_);clear hK K;try simp only [zF, zG, zC, zD, zE]
 refine wpAnyH_done (by kernel_rfl) ?_ _;clear c0 c1 c2 c3 c4 c5 e1 e2 f0 f1 f2 f3 b8 a7 a8 hHeld;go_wp2;go_end0
 exact ⟨rfl, HD.out⟩
theorem aB0.renamed (h : aB0 w base g m p room es) {a b : Nm} {fe : FE} (ha : aA9 a es = some fe) (a8 : w.grownBy w1 (some m)) (h1 : aB0 w1 base g m p room (aB6 a es)) (hg : w1.grownBy w2 (some m)) (hm : aG2 Tryz.prog 9 w2 m (aB3 b fe.blk (sec FE.blk (aB6 a es)))) :
  aB0 w2 base g m p room (aB3 b fe (aB6 a es)) ∧ Fr (aA8 g m es) w w2 ∧ ∀ k, aA8 g m (aB3 b fe (aB6 a es)) k -> aA8 g m es k ∨ w.heap.size <= k := by
 have a7 := aC7 ha;have hf : Blk w fe.blk 83 #[fe.v, .int .i64 fe.f.safe] := h.file _ a7;have b8 : Got w base fe.v fe.f.b := h.got _ a7;have d8 := aM3 hf h.map;have a9 : ∀ k, k < w.heap.size -> k ≠ m -> w2.heap[k]? = w.heap[k]? := fun k hk hn => (hg.block k (Nat.lt_of_lt_of_le hk a8.size) (fun e => hn (by injection e))).trans (a8.block k hk (fun e => hn (by injection e)))
 refine ⟨h1.file_new fe (fun q hq _ => h.apart q (a, fe) (aI5.1 hq).1 a7 (aI5.1 hq).2) hg.size ((a9 fe.blk hf.lt d8).trans hf) (b8.kept (fun k hk => a9 k (b8.row.lt k hk) (fun e => aR6 b8 h.map (by rw [hk, e]))) (Nat.le_trans a8.size hg.size)) (h.safe _ a7) (h.low.2.2 (a, fe) a7) hm (fun k hk hn => hg.block k hk (fun e => hn (by injection e))), ?_, fun k hk => ?_⟩
 ·exact ⟨hg.os.trans a8.os, hg.tape.trans a8.tape, hg.output.trans a8.output, Nat.le_trans a8.size hg.size, fun k hk hn => a9 k hk (fun e => hn (.inr (.inl e)))⟩
 rcases hk with hk | hk | ⟨q, hq, hk⟩
 ·exact .inl (.inl hk)
 ·exact .inl (.inr (.inl hk))
 rcases asPut_mem' hq with rfl | ⟨hq, _⟩
 ·exact .inl (.inr (.inr ⟨(a, fe), a7, hk⟩))
 exact .inl (.inr (.inr ⟨q, (aI5.1 hq).1, hk⟩))
theorem bX6 (h : aB0 w base g m p room es) (s t : ByteArray) (hs : s.size <= 140737488351232) (ht : t.size <= 140737488351232) {fe : FE} (e9 : aA9 s.data.toList es = some fe) (b1 b2 b3 b4 : Nat) (h1 : Blk w b1 26 #[.pointer (some ⟨g, 0, none⟩)]) (h2 : Blk w b2 9 #[.string s]) (h3 : Blk w b3 81 #[.pointer (some ⟨fe.blk, 0, none⟩)]) (h4 : Blk w b4 9 #[.string t]) (hl : es.length < 4398046511104) :
  Calls Tryz.prog 120 #[.pointer (some ⟨b1, 0, none⟩), .pointer (some ⟨b2, 0, none⟩), .pointer (some ⟨b3, 0, none⟩), .pointer (some ⟨b4, 0, none⟩)] w fun e w' => e = .returned (.tuple #[]) ∧ aB0 w' base g m p room (aB3 t.data.toList fe (aB6 s.data.toList es)) ∧ Fr (aA8 g m es) w w' ∧ ∀ k, aA8 g m (aB3 t.data.toList fe (aB6 s.data.toList es)) k -> aA8 g m es k ∨ w.heap.size <= k := by
 obtain ⟨⟨c0, c1, c2, c3, c4, c5⟩, f0, f1, f2, f3⟩ := aL8 h.blk;have e1 : w.cell? ⟨b1, 0, none⟩ = some (.pointer (some ⟨g, 0, none⟩)) := h1.cell 0;have e2 : w.cell? ⟨b2, 0, none⟩ = some (.string s) := h2.cell 0;have e3 : w.cell? ⟨b3, 0, none⟩ = some (.pointer (some ⟨fe.blk, 0, none⟩)) := h3.cell 0;have e4 : w.cell? ⟨b4, 0, none⟩ = some (.string t) := h4.cell 0;have HM := qZ h.map;have H := qZ h;have a9 := qZ (show b1 ≠ m ∧ b2 ≠ m ∧ g ≠ m ∧ b3 ≠ m ∧ b4 ≠ m from ⟨aM3 h1 h.map, aM3 h2 h.map, aM3 h.blk h.map, aM3 h3 h.map, aM3 h4 h.map⟩);have f8 := qZ e9;clear h h1 h2 h3 h4 e9;go_enter Tryz.func120, Tryz.ntmps120
 go_upto_region 0 with fail
 go_cut [] (fun wx => Hid (aB0 wx base g m p room (aB6 s.data.toList es)) ∧ Hid (w.grownBy wx (some m)))
 case first =>
  refine wp_region_held_drew (S := fun W => W.cell? ⟨b1, 0, none⟩ = some (.pointer (some ⟨g, 0, none⟩)) ∧ W.cell? ⟨b2, 0, none⟩ = some (.string s) ∧ W.cell? ⟨g, 5, none⟩ = some (.map (some m)) ∧ True) (by kernel_rfl) ⟨e1, e2, c5, trivial⟩ (fun hHeld => ?_);refine zT 0 (k := ?_);refine zT 1 (k := ?_);refine zT 2 (k := ?_);refine zT 3 (k := ?_);refine zT 4 (k := ?_);simp only [zA, zB, zF, zG, zC, zD, zE];refine zV 5 (k := fun K hK => ?_);simp only [zA, zB];rw [if_pos (by rfl)];refine bR8 (.tmp 7) (.tmp 8) 59 rfl Tryz.underlying9 Tryz.underlying59 HM.out s (by unfold maxLen; omega) rfl rfl ?_;intro w1 d8 a7;have a8 : w.grownBy w1 (some m) := ⟨a7.os, a7.tape, a7.output, a7.size, a7.block⟩;have HD := qZ (H.out.deleted a8 d8).1;have f9 := qZ a8;refine hK.out _ _ ⟨(World.cell?_of_block (a8.block b1 (mI w ⟨b1, 0, none⟩ e1) (fun e => by injection e with e; exact a9.out.1 e))).trans e1, (World.cell?_of_block (a8.block b2 (mI w ⟨b2, 0, none⟩ e2) (fun e => by injection e with e; exact a9.out.2.1 e))).trans e2, (World.cell?_of_block (a8.block g (mI w ⟨g, 5, none⟩ c5) (fun e => by injection e with e; exact a9.out.2.2.1 e))).trans c5, trivial⟩ (fun hHeld => ?_);clear hK K;try simp only [zF, zG, zC, zD, zE]
  refine wpAnyH_done (by kernel_rfl) ?_ _;clear c0 c1 c2 c3 c4 c5 e1 e2 e3 e4 f0 f1 f2 f3 d8 a7 a8 hHeld;go_wp2_with fail
  go_meet;exact ⟨HD, f9⟩
 obtain ⟨hD, hG⟩ := hcut;have b8 : ∀ (q i : Nat) (u : Value), q ≠ m -> w.cell? ⟨q, i, none⟩ = some u -> wc.cell? ⟨q, i, none⟩ = some u := fun q i u hq hc => (World.cell?_of_block (w := w) (hG.out.block q (mI w ⟨q, i, none⟩ hc) (fun e => by injection e with e; exact hq e))).trans hc
 have d1 := b8 b1 0 _ a9.out.1 e1;have d3 := b8 b3 0 _ a9.out.2.2.2.1 e3;have d4 := b8 b4 0 _ a9.out.2.2.2.2 e4;have d5 := b8 g 5 _ a9.out.2.2.1 c5;have g6 := qZ hD.out.map;have f7 : (sec FE.blk (aB6 s.data.toList es)).length < maxLen := by
  rw [lU];have := List.length_filter_le (fun p : Nm × FE => !(p.1 == s.data.toList)) es;unfold aB6 maxLen;omega
 clear c0 c1 c2 c3 c4 c5 e1 e2 e3 e4 f0 f1 f2 f3 b8;go_wp2_with fail
 refine wp_region_held_drew (S := fun W => W.cell? ⟨b1, 0, none⟩ = some (.pointer (some ⟨g, 0, none⟩)) ∧ W.cell? ⟨b3, 0, none⟩ = some (.pointer (some ⟨fe.blk, 0, none⟩)) ∧ W.cell? ⟨b4, 0, none⟩ = some (.string t) ∧ W.cell? ⟨g, 5, none⟩ = some (.map (some m))) (by kernel_rfl) ⟨d1, d3, d4, d5⟩ (fun hHeld => ?_);refine zT 0 (k := ?_);refine zT 1 (k := ?_);refine zT 2 (k := ?_);refine zT 3 (k := ?_);refine zT 4 (k := ?_);refine zT 5 (k := ?_);simp only [zA, zB, zF, zG, zC, zD, zE];refine zV 6 (k := fun K hK => ?_);simp only [zA, zB];rw [if_pos (by rfl)];refine cH1 (.tmp 12) (.tmp 13) (.tmp 14) 59 rfl Tryz.underlying9 Tryz.underlying59 g6.out f7 t (by unfold maxLen; omega) fe.blk rfl rfl rfl ?_;intro w1 d8 a7;have a8 : wc.grownBy w1 (some m) := ⟨a7.os, a7.tape, a7.output, a7.size, a7.block⟩;have HD := qZ (H.out.renamed f8.out hG.out hD.out a8 d8);refine hK.out _ _ ⟨(World.cell?_of_block (a8.block b1 (mI wc ⟨b1, 0, none⟩ d1) (fun e => by injection e with e; exact a9.out.1 e))).trans d1, (World.cell?_of_block (a8.block b3 (mI wc ⟨b3, 0, none⟩ d3) (fun e => by injection e with e; exact a9.out.2.2.2.1 e))).trans d3, (World.cell?_of_block (a8.block b4 (mI wc ⟨b4, 0, none⟩ d4) (fun e => by injection e with e; exact a9.out.2.2.2.2 e))).trans d4, (World.cell?_of_block (a8.block g (mI wc ⟨g, 5, none⟩ d5) (fun e => by injection e with e; exact a9.out.2.2.1 e))).trans d5⟩ (fun hHeld => ?_);clear hK K;try simp only [zF, zG, zC, zD, zE]
 refine wpAnyH_done (by kernel_rfl) ?_ _;clear d1 d3 d4 d5 d8 a7 a8 hHeld f7;go_wp2;go_end0
 exact ⟨rfl, HD.out⟩
end
end
section
open Go.RowKit Go.Maps Go.Sort Oct
theorem cQ3 (n : Int) : n.tmod 2 = 0 ↔ n % 2 = 0 := by
 have h1 := Int.mul_tdiv_add_tmod n 2;have h2 : -2 < n.tmod 2 := Int.lt_tmod_of_pos n (by omega);have h3 : n.tmod 2 < 2 := Int.tmod_lt_of_pos n (by omega);omega
section
variable {w w1 w2 w' : World} {base g m : Nat} {p p' : PWD} {room : Int} {es : List (Nm × FE)}
theorem aB0.not_foot (h : aB0 w base g m p room es) {b : Nat} {T : TypeId} {cs : Array Value} (hB : Blk w b T cs) (h1 : T ≠ 61) (h2 : T ≠ 83) (h3 : T ≠ 5) : ¬ aA8 g m es b := by
 rintro (e | e | ⟨q, hq, e | e⟩)
 ·exact blk_ne hB h.blk h1 e
 ·exact aM3 hB h.map e
 ·exact blk_ne hB (h.file q hq) h2 e
 exact aF0 (h.got q hq) hB h3 e
theorem Fr.blk_ {mine : Nat -> Prop} (hf : Fr mine w w') {b : Nat} {T : TypeId} {cs : Array Value} (hB : Blk w b T cs) (hn : ¬ mine b) : Blk w' b T cs := (hf.block b hB.lt hn).trans hB
theorem aB4.step {es' : List (Nm × FE)} {d : DkD} (hf : Fr (aA8 g m es) w w1) (a7 : ∀ k, aA8 g m es' k -> aA8 g m es k ∨ w1.heap.size <= k) (h : aB4 w1 base g m es' d w2) : aB4 w base g m es d w2 := by
 obtain ⟨es2, h1, h2, h3, h4⟩ := h;refine ⟨es2, h1, h2, hf.trans h3 (fun j hj => by
  rcases a7 j hj with h5 | h5
  ·exact .inl h5
  exact .inr (Nat.le_trans hf.size h5)), fun k hk => ?_⟩
 rcases h4 k hk with h5 | h5
 ·rcases a7 k h5 with h6 | h6
  ·exact .inl h6
  exact .inr (Nat.le_trans hf.size h6)
 exact .inr (Nat.le_trans hf.size h5)
theorem aB4.at_ {es' : List (Nm × FE)} (h : aB0 w' base g m p room es') (hf : Fr (aA8 g m es) w w') (hfoot : ∀ k, aA8 g m es' k -> aA8 g m es k ∨ w.heap.size <= k) : aB4 w base g m es ⟨p, room, sec FE.f es'⟩ w' := ⟨es', h, rfl, hf, hfoot⟩
theorem dG9 (h : aB0 w base g m p room es) (s : ByteArray) (hs : s.size <= 140737488351232) (b1 b2 : Nat) (h1 : Blk w b1 26 #[.pointer (some ⟨g, 0, none⟩)]) (h2 : Blk w b2 9 #[.string s]) :
  Calls Tryz.prog 107 #[.pointer (some ⟨g, 0, none⟩), .func (.func 142) #[] #[.pointer (some ⟨b1, 0, none⟩), .pointer (some ⟨b2, 0, none⟩)]] w fun e w' => e = .returned (.int .i64 ((aD2 p room es).whole (aB6 s.data.toList (sec FE.f es))).1) ∧ aB4 w base g m es ((aD2 p room es).whole (aB6 s.data.toList (sec FE.f es))).2 w' := by
 have hcut := qZ (bA0 h);have HB := qZ (And.intro h (And.intro h1 h2));obtain ⟨c, hc⟩ : ∃ c, c = p.cut := ⟨_, rfl⟩
 obtain ⟨b8, part, p'⟩ := c;rw [<- hc] at hcut;have a9 : ∀ w1, aB0 w1 base g m p' room es -> Fr (aA8 g m es) w w1 -> Hid (Calls Tryz.prog 142 #[.pointer (some ⟨b1, 0, none⟩), .pointer (some ⟨b2, 0, none⟩)] w1 fun e w' => e = .returned (.tuple #[]) ∧ aB4 w base g m es ⟨p', room, aB6 s.data.toList (sec FE.f es)⟩ w') := fun w1 hD hF => qZ (by
  obtain ⟨h, k0, k1⟩ := HB.out;refine (bX5 hD s hs b1 b2 (hF.blk_ k0 (h.not_foot k0 (by decide) (by decide) (by decide))) (hF.blk_ k1 (h.not_foot k1 (by decide) (by decide) (by decide)))).mono ?_;rintro e w' ⟨rfl, h4, h5⟩;refine ⟨rfl, ?_⟩;rw [<- aZ6];exact aB4.at_ h4 (hF.trans h5 (fun j hj => .inl hj)) (fun k hk => .inl (dB7 hk)))
 have a7 : (if (b8 = false ∨ part % 2 ≠ 0) then True else True) := by split <;> trivial
 clear a7;cases b8 with
 | false =>
  have e : (aD2 p room es).whole (aB6 s.data.toList (sec FE.f es)) = (0, ⟨p', room, aB6 s.data.toList (sec FE.f es)⟩) := by unfold DkD.whole; rw [<- hc]; simp
  rw [e];clear h e hc HB;go_enter Tryz.func107, Tryz.ntmps107
  go_wp2_with fail
  refine hcut.out.mono ?_;rintro e w1 ⟨rfl, hD, hF, d8⟩;have a7 := a9 w1 hD hF;clear hD hF d8 hcut a9;go_wp2_with fail
  refine a7.out.mono ?_;rintro e w2 ⟨rfl, hT⟩;have HT := qZ hT;clear hT a7;go_wp2_with fail
  go_ret
  exact ⟨rfl, HT.out⟩
 | true =>
  by_cases hp : part % 2 = 0
  ·have e : (aD2 p room es).whole (aB6 s.data.toList (sec FE.f es)) = (50, aD2 p' room es) := by unfold DkD.whole; rw [<- hc]; simp [hp]
   rw [e];have a8 : part.tmod 2 = 0 := (cQ3 part).2 hp;have e9 : (part.tmod 2 != 0) = false := by simp [a8]
   clear h e hc HB a9 hp;go_enter Tryz.func107, Tryz.ntmps107
   go_wp2_with fail
   refine hcut.out.mono ?_;rintro e w1 ⟨rfl, hD, hF, d8⟩;have HT := qZ (aB4.mk' hD hF);clear hD hF d8 hcut;go_wp2_with fail
   go_ret
   exact ⟨rfl, HT.out⟩
  have e : (aD2 p room es).whole (aB6 s.data.toList (sec FE.f es)) = (50, ⟨p', room, aB6 s.data.toList (sec FE.f es)⟩) := by unfold DkD.whole; rw [<- hc]; simp [hp]
  rw [e];have a8 : ¬ part.tmod 2 = 0 := fun e => hp ((cQ3 part).1 e)
  have e9 : (part.tmod 2 != 0) = true := by simpa using a8
  clear h e hc HB hp;go_enter Tryz.func107, Tryz.ntmps107
  go_wp2_with fail
  refine hcut.out.mono ?_;rintro e w1 ⟨rfl, hD, hF, d8⟩;have a7 := a9 w1 hD hF;clear hD hF d8 hcut a9;go_wp2_with fail
  refine a7.out.mono ?_;rintro e w2 ⟨rfl, hT⟩;have HT := qZ hT;clear hT a7;go_wp2_with fail
  go_ret
  exact ⟨rfl, HT.out⟩
theorem dH0 (h : aB0 w base g m p room es) (s t : ByteArray) (hs : s.size <= 140737488351232) (ht : t.size <= 140737488351232) {fe : FE} (e9 : aA9 s.data.toList es = some fe) (b1 b2 b3 b4 : Nat) (h1 : Blk w b1 26 #[.pointer (some ⟨g, 0, none⟩)]) (h2 : Blk w b2 9 #[.string s]) (h3 : Blk w b3 81 #[.pointer (some ⟨fe.blk, 0, none⟩)]) (h4 : Blk w b4 9 #[.string t]) (hl : es.length < 4398046511104) :
  Calls Tryz.prog 107 #[.pointer (some ⟨g, 0, none⟩), .func (.func 120) #[] #[.pointer (some ⟨b1, 0, none⟩), .pointer (some ⟨b2, 0, none⟩), .pointer (some ⟨b3, 0, none⟩), .pointer (some ⟨b4, 0, none⟩)]] w fun e w' => e = .returned (.int .i64 ((aD2 p room es).whole (aB3 t.data.toList fe.f (aB6 s.data.toList (sec FE.f es)))).1) ∧ aB4 w base g m es ((aD2 p room es).whole (aB3 t.data.toList fe.f (aB6 s.data.toList (sec FE.f es)))).2 w' := by
 have hcut := qZ (bA0 h);have HB := qZ (And.intro h (And.intro h1 (And.intro h2 (And.intro h3 h4))));obtain ⟨c, hc⟩ : ∃ c, c = p.cut := ⟨_, rfl⟩
 obtain ⟨b8, part, p'⟩ := c;rw [<- hc] at hcut;have a9 : ∀ w1, aB0 w1 base g m p' room es -> Fr (aA8 g m es) w w1 -> Hid (Calls Tryz.prog 120 #[.pointer (some ⟨b1, 0, none⟩), .pointer (some ⟨b2, 0, none⟩), .pointer (some ⟨b3, 0, none⟩), .pointer (some ⟨b4, 0, none⟩)] w1 fun e w' => e = .returned (.tuple #[]) ∧ aB4 w base g m es ⟨p', room, aB3 t.data.toList fe.f (aB6 s.data.toList (sec FE.f es))⟩ w') := fun w1 hD hF => qZ (by
  obtain ⟨h, k0, k1, k2, k3⟩ := HB.out;refine (bX6 hD s t hs ht e9 b1 b2 b3 b4 (hF.blk_ k0 (h.not_foot k0 (by decide) (by decide) (by decide))) (hF.blk_ k1 (h.not_foot k1 (by decide) (by decide) (by decide))) (hF.blk_ k2 (h.not_foot k2 (by decide) (by decide) (by decide))) (hF.blk_ k3 (h.not_foot k3 (by decide) (by decide) (by decide))) hl).mono ?_;rintro e w' ⟨rfl, h4, h5, h6⟩;refine ⟨rfl, ?_⟩;rw [<- aZ6, <- aU2 FE.f];exact aB4.at_ h4 (hF.trans h5 (fun j hj => .inl hj)) (fun k hk => by
   rcases h6 k hk with h7 | h7
   ·exact .inl h7
   exact .inr (Nat.le_trans hF.size h7)))
 have a7 : (if (b8 = false ∨ part % 2 ≠ 0) then True else True) := by split <;> trivial
 clear a7;cases b8 with
 | false =>
  have e : (aD2 p room es).whole (aB3 t.data.toList fe.f (aB6 s.data.toList (sec FE.f es))) = (0, ⟨p', room, aB3 t.data.toList fe.f (aB6 s.data.toList (sec FE.f es))⟩) := by unfold DkD.whole; rw [<- hc]; simp
  rw [e];clear h e hc HB;go_enter Tryz.func107, Tryz.ntmps107
  go_wp2_with fail
  refine hcut.out.mono ?_;rintro e w1 ⟨rfl, hD, hF, d8⟩;have a7 := a9 w1 hD hF;clear hD hF d8 hcut a9;go_wp2_with fail
  refine a7.out.mono ?_;rintro e w2 ⟨rfl, hT⟩;have HT := qZ hT;clear hT a7;go_wp2_with fail
  go_ret
  exact ⟨rfl, HT.out⟩
 | true =>
  by_cases hp : part % 2 = 0
  ·have e : (aD2 p room es).whole (aB3 t.data.toList fe.f (aB6 s.data.toList (sec FE.f es))) = (50, aD2 p' room es) := by unfold DkD.whole; rw [<- hc]; simp [hp]
   rw [e];have a8 : part.tmod 2 = 0 := (cQ3 part).2 hp;have f7 : (part.tmod 2 != 0) = false := by simp [a8]
   clear h e hc HB a9 hp;go_enter Tryz.func107, Tryz.ntmps107
   go_wp2_with fail
   refine hcut.out.mono ?_;rintro e w1 ⟨rfl, hD, hF, d8⟩;have HT := qZ (aB4.mk' hD hF);clear hD hF d8 hcut;go_wp2_with fail
   go_ret
   exact ⟨rfl, HT.out⟩
  have e : (aD2 p room es).whole (aB3 t.data.toList fe.f (aB6 s.data.toList (sec FE.f es))) = (50, ⟨p', room, aB3 t.data.toList fe.f (aB6 s.data.toList (sec FE.f es))⟩) := by unfold DkD.whole; rw [<- hc]; simp [hp]
  rw [e];have a8 : ¬ part.tmod 2 = 0 := fun e => hp ((cQ3 part).1 e)
  have f7 : (part.tmod 2 != 0) = true := by simpa using a8
  clear h e hc HB hp;go_enter Tryz.func107, Tryz.ntmps107
  go_wp2_with fail
  refine hcut.out.mono ?_;rintro e w1 ⟨rfl, hD, hF, d8⟩;have a7 := a9 w1 hD hF;clear hD hF d8 hcut a9;go_wp2_with fail
  refine a7.out.mono ?_;rintro e w2 ⟨rfl, hT⟩;have HT := qZ hT;clear hT a7;go_wp2_with fail
  go_ret
  exact ⟨rfl, HT.out⟩
end
end
section
open Go.RowKit Go.Maps Go.Sort Oct
section
variable {w w1 w2 w' : World} {base g m : Nat} {p p' : PWD} {room : Int} {es : List (Nm × FE)}
theorem cD6 (h : aB0 w base g m p room es) (s : ByteArray) (hs : s.size <= 140737488351232) :
  Calls Tryz.prog 97 #[.pointer (some ⟨g, 0, none⟩), .string s] w fun e w' => e = .returned (.int .i64 ((aD2 p room es).remove s.data.toList).1) ∧ aB4 w base g m es ((aD2 p room es).remove s.data.toList).2 w' := by
 have b8 := ((lS w.heap.size w).alloc (lR _) (.cells #[.pointer (some ⟨g, 0, none⟩)] 26)).alloc (by simp) (.cells #[.string s] 9);have d8 : (w.alloc (.cells #[.pointer (some ⟨g, 0, none⟩)] 26)).heap.size = w.heap.size + 1 := by simp
 have a9 := (Blk.new w 26 #[.pointer (some ⟨g, 0, none⟩)]).alloc (.cells #[.string s] 9);have a8 := Blk.new (w.alloc (.cells #[.pointer (some ⟨g, 0, none⟩)] 26)) 9 #[.string s];rw [d8] at a8;have hA := h.below b8;have e1 := a9.cell 0;have e2 := a8.cell 0;simp only [List.getElem?_toArray, List.getElem?_cons_zero] at e1 e2;have HB := qZ (Fr.of_below (aA8 g m es) b8);have HK := qZ (And.intro a9 a8);by_cases ho : p.off = true
 ·have e : (aD2 p room es).remove s.data.toList = (50, aD2 p room es) := by unfold DkD.remove; rw [if_pos ho]
  rw [e];have a7 := qZ (aV3 hA s hs ho);have HA := qZ hA;clear h e hA b8 a9 a8 d8;go_enter Tryz.func97, Tryz.ntmps97
  go_wp2_with fail
  refine a7.out.mono ?_;rintro e w' ⟨rfl, rfl⟩;go_wp2_with fail
  go_ret
  exact ⟨rfl, aB4.mk' HA.out HB.out⟩
 have e9 : p.off = false := by simpa using ho
 cases hg : aA9 s.data.toList es with
 | none =>
  have e : (aD2 p room es).remove s.data.toList = (51, aD2 p room es) := by unfold DkD.remove; rw [if_neg ho]; simp only [aY6 hg]
  rw [e];have a7 := qZ (aV4 hA s hs hg e9);have HA := qZ hA;clear h e hA b8 a9 a8 d8;go_enter Tryz.func97, Tryz.ntmps97
  go_wp2_with fail
  refine a7.out.mono ?_;rintro e w' ⟨rfl, rfl⟩;go_wp2_with fail
  go_ret
  exact ⟨rfl, aB4.mk' HA.out HB.out⟩
 | some fe =>
  have e : (aD2 p room es).remove s.data.toList = (aD2 p room es).whole (aB6 s.data.toList (sec FE.f es)) := by unfold DkD.remove; rw [if_neg ho]; simp only [aL6 hg]
  rw [e];have a7 := qZ (aR4 hA s hs hg e9);have f7 := qZ (dG9 hA s hs w.heap.size (w.heap.size + 1) a9 a8);obtain ⟨R, hR⟩ : ∃ R, R = (aD2 p room es).whole (aB6 s.data.toList (sec FE.f es)) := ⟨_, rfl⟩
  rw [<- hR] at f7 ⊢;clear h e hA b8 a9 a8 d8 hg ho e9 hR;go_enter Tryz.func97, Tryz.ntmps97
  go_wp2_with fail
  refine a7.out.mono ?_;rintro e w' ⟨rfl, rfl⟩;go_wp2_with fail
  refine f7.out.mono ?_;rintro e w1 ⟨rfl, hT⟩;have HT := qZ (aB4.step HB.out (fun k hk => .inl hk) hT);clear hT f7 a7;go_wp2_with fail
  go_ret
  exact ⟨rfl, HT.out⟩
theorem nameB_false {t : Nm} (h : bC8 t = false) : t = [] ∨ 32 < t.length := by
 by_cases h0 : t = []
 ·exact .inl h0
 right
 unfold bC8 at h;simp [h0] at h
 exact h
theorem bQ9 {t : Nm} (h : bC8 t = true) : ¬ t = [] ∧ ¬ 32 < t.length := by
 unfold bC8 at h;simp at h
 exact ⟨h.1, by omega⟩
theorem cD7 (h : aB0 w base g m p room es) (s t : ByteArray) (hs : s.size <= 140737488351232) (ht : t.size <= 140737488351232) (hl : es.length < 4398046511104) :
  Calls Tryz.prog 71 #[.pointer (some ⟨g, 0, none⟩), .string s, .string t] w fun e w' => e = .returned (.int .i64 ((aD2 p room es).rename s.data.toList t.data.toList).1) ∧ aB4 w base g m es ((aD2 p room es).rename s.data.toList t.data.toList).2 w' := by
 have f7 := (((lS w.heap.size w).alloc (lR _) (.cells #[.pointer (some ⟨g, 0, none⟩)] 26)).alloc (by simp) (.cells #[.string s] 9)).alloc (by simp; omega) (.cells #[.string t] 9);have f9 : (w.alloc (.cells #[.pointer (some ⟨g, 0, none⟩)] 26)).heap.size = w.heap.size + 1 := by simp
 have a8 : ((w.alloc (.cells #[.pointer (some ⟨g, 0, none⟩)] 26)).alloc (.cells #[.string s] 9)).heap.size = w.heap.size + 1 + 1 := by simp
 have e9 := ((Blk.new w 26 #[.pointer (some ⟨g, 0, none⟩)]).alloc (.cells #[.string s] 9)).alloc (.cells #[.string t] 9);have b8 := (Blk.new (w.alloc (.cells #[.pointer (some ⟨g, 0, none⟩)] 26)) 9 #[.string s]).alloc (.cells #[.string t] 9);have d8 := Blk.new ((w.alloc (.cells #[.pointer (some ⟨g, 0, none⟩)] 26)).alloc (.cells #[.string s] 9)) 9 #[.string t];have a9 : (((w.alloc (.cells #[.pointer (some ⟨g, 0, none⟩)] 26)).alloc (.cells #[.string s] 9)).alloc (.cells #[.string t] 9)).heap.size = w.heap.size + 1 + 1 + 1 := by simp
 rw [f9] at b8;rw [a8] at d8;have hA := h.below f7;have e1 := e9.cell 0;have e2 := b8.cell 0;have e3 := d8.cell 0;simp only [List.getElem?_toArray, List.getElem?_cons_zero] at e1 e2 e3;have HB := qZ (Fr.of_below (aA8 g m es) f7);by_cases ho : p.off = true
 ·have e : (aD2 p room es).rename s.data.toList t.data.toList = (50, aD2 p room es) := by unfold DkD.rename; rw [if_pos ho]
  rw [e];have a7 := qZ (aV3 hA s hs ho);have HA := qZ (aB4.step HB.out (fun k hk => .inl hk) (aB4.mk' (hA.below ((lS _ _).alloc (lR _) (.cells #[.pointer none] 81))) (Fr.of_below _ ((lS _ _).alloc (lR _) _))));clear h e hA f7 e9 b8 d8 f9 a8 a9;go_enter Tryz.func71, Tryz.ntmps71
  go_wp2_with fail
  refine a7.out.mono ?_;rintro e w' ⟨rfl, rfl⟩;go_wp2_with fail
  go_ret
  exact ⟨rfl, HA.out⟩
 have g7 : p.off = false := by simpa using ho
 cases hg : aA9 s.data.toList es with
 | none =>
  have e : (aD2 p room es).rename s.data.toList t.data.toList = (51, aD2 p room es) := by unfold DkD.rename; rw [if_neg ho]; simp only [aY6 hg]
  rw [e];have a7 := qZ (aV4 hA s hs hg g7);have HA := qZ (aB4.step HB.out (fun k hk => .inl hk) (aB4.mk' (hA.below ((lS _ _).alloc (lR _) (.cells #[.pointer none] 81))) (Fr.of_below _ ((lS _ _).alloc (lR _) _))));clear h e hA f7 e9 b8 d8 f9 a8 a9;go_enter Tryz.func71, Tryz.ntmps71
  go_wp2_with fail
  refine a7.out.mono ?_;rintro e w' ⟨rfl, rfl⟩;go_wp2_with fail
  go_ret
  exact ⟨rfl, HA.out⟩
 | some fe =>
  have a7 := qZ (aR4 hA s hs hg g7);have g6 := (lS _ (((w.alloc (.cells #[.pointer (some ⟨g, 0, none⟩)] 26)).alloc (.cells #[.string s] 9)).alloc (.cells #[.string t] 9))).alloc (lR _) (.cells #[.pointer (some ⟨fe.blk, 0, none⟩)] 81);have hF := hA.below g6;have f8 := qZ (bX4 t ((((w.alloc (.cells #[.pointer (some ⟨g, 0, none⟩)] 26)).alloc (.cells #[.string s] 9)).alloc (.cells #[.string t] 9)).alloc (.cells #[.pointer (some ⟨fe.blk, 0, none⟩)] 81)) ht);have HF := qZ (HB.out.trans (Fr.of_below (aA8 g m es) g6) (fun j hj => .inl hj));have g1 := (e9.alloc (.cells #[.pointer (some ⟨fe.blk, 0, none⟩)] 81));have g2 := (b8.alloc (.cells #[.pointer (some ⟨fe.blk, 0, none⟩)] 81));have g3 := (d8.alloc (.cells #[.pointer (some ⟨fe.blk, 0, none⟩)] 81));have g4 := Blk.new (((w.alloc (.cells #[.pointer (some ⟨g, 0, none⟩)] 26)).alloc (.cells #[.string s] 9)).alloc (.cells #[.string t] 9)) 81 #[.pointer (some ⟨fe.blk, 0, none⟩)];rw [a9] at g4;have d1 := g1.cell 0;have d2 := g2.cell 0;have d3 := g3.cell 0;have d4 := g4.cell 0;simp only [List.getElem?_toArray, List.getElem?_cons_zero] at d1 d2 d3 d4;cases hnb : bC8 t.data.toList with
  | false =>
   have e : (aD2 p room es).rename s.data.toList t.data.toList = (1, aD2 p room es) := by
    unfold DkD.rename;rw [if_neg ho];simp only [aL6 hg];rw [if_pos];rcases nameB_false hnb with h1 | h1
    ·exact .inl h1
    exact .inr (.inl h1)
   rw [e];rw [hnb] at f8;have HT := qZ (aB4.mk' hF HF.out);clear h e hA f7 e9 b8 d8 f9 a8 a9 g6 hF g1 g2 g3 g4 hg ho g7 hnb;go_enter Tryz.func71, Tryz.ntmps71
   go_wp2_with fail
   refine a7.out.mono ?_;rintro e w' ⟨rfl, rfl⟩;go_wp2_with fail
   refine f8.out.mono ?_;rintro e w' ⟨rfl, rfl⟩;go_wp2_with fail
   go_ret
   exact ⟨rfl, HT.out⟩
  | true =>
   rw [hnb] at f8;obtain ⟨n1, n2⟩ := bQ9 hnb;by_cases hst : s.data.toList = t.data.toList
   ·have g8 : s = t := WideShapes.bytes_inj hst
    have e : (aD2 p room es).rename s.data.toList t.data.toList = (1, aD2 p room es) := by
     unfold DkD.rename;rw [if_neg ho];simp only [aL6 hg];rw [if_pos (.inr (.inr hst))]
    rw [e];have HT := qZ (aB4.mk' hF HF.out);subst g8;clear h e hA f7 e9 b8 d8 f9 a8 a9 g6 hF g1 g2 g3 g4 hg ho g7 hnb n1 n2 hst;go_enter Tryz.func71, Tryz.ntmps71
    go_wp2_with fail
    refine a7.out.mono ?_;rintro e w' ⟨rfl, rfl⟩;go_wp2_with fail
    refine f8.out.mono ?_;rintro e w' ⟨rfl, rfl⟩;go_wp2_with fail
    go_ret
    exact ⟨rfl, HT.out⟩
   have i1 : (s.toList == t.toList) = false := by
    rw [toList_eq, toList_eq]
    simpa using hst
   have e : (aD2 p room es).rename s.data.toList t.data.toList = (aD2 p room es).whole (aB3 t.data.toList fe.f (aB6 s.data.toList (sec FE.f es))) := by
    unfold DkD.rename;rw [if_neg ho];simp only [aL6 hg];rw [if_neg];rintro (h1 | h1 | h1)
    ·exact n1 h1
    ·exact n2 h1
    exact hst h1
   rw [e];have g9 := qZ (dH0 hF s t hs ht hg w.heap.size (w.heap.size + 1) (w.heap.size + 1 + 1 + 1) (w.heap.size + 1 + 1) g1 g2 g4 g3 hl);obtain ⟨R, hR⟩ : ∃ R, R = (aD2 p room es).whole (aB3 t.data.toList fe.f (aB6 s.data.toList (sec FE.f es))) := ⟨_, rfl⟩
   rw [<- hR] at g9 ⊢;clear h e hA f7 e9 b8 d8 f9 a8 a9 g6 hF g1 g2 g3 g4 hg ho g7 hnb n1 n2 hst hR;go_enter Tryz.func71, Tryz.ntmps71
   go_wp2_with fail
   refine a7.out.mono ?_;rintro e w' ⟨rfl, rfl⟩;go_wp2_with fail
   refine f8.out.mono ?_;rintro e w' ⟨rfl, rfl⟩;go_wp2_with fail
   refine g9.out.mono ?_;rintro e w1 ⟨rfl, hT⟩;have HT := qZ (aB4.step HF.out (fun k hk => .inl hk) hT);clear hT g9 a7 f8;go_wp2_with fail
   go_ret
   exact ⟨rfl, HT.out⟩
end
end
section
open Go.RowKit Oct
theorem bE6 {T : TypeId} {g : Nat} : ∀ (vs : List Value) (o : Nat) (w : World) (cur : Array Value), Blk w g T cur -> ∃ cur', Blk (w.setCells g o vs) g T cur' ∧ cur'.size = cur.size ∧ (∀ j, j < o -> cur'[j]? = cur[j]?) ∧ (∀ j (hj : j < vs.length), o + vs.length <= cur.size -> cur'[o + j]? = some vs[j])
 | [], o, w, cur, h => ⟨cur, h, rfl, fun _ _ => rfl, fun j hj => absurd hj (by simp)⟩
 | v :: r, o, w, cur, h => by
  obtain ⟨cur', h1, h2, h3, h4⟩ := bE6 r (o + 1) (w.setCell ⟨g, o, none⟩ v) _ (Blk.set_ h o v);refine ⟨cur', h1, by rw [h2]; simp, fun j hj => ?_, fun j hj hs => ?_⟩
  ·rw [h3 j (by omega), Array.getElem?_setIfInBounds, if_neg (by omega)]
  cases j with
  | zero =>
   rw [Nat.add_zero, h3 o (by omega), Array.getElem?_setIfInBounds, if_pos rfl, if_pos (by simp at hs; omega)]
   rfl
  | succ j =>
   have h5 := h4 j (by simpa using hj) (by simp at hs ⊢; omega);rw [show o + (j + 1) = o + 1 + j by omega, h5]
   rfl
theorem aX7 (g : Nat) : ∀ (vs : List Value) (o : Nat) (w : World), w.grownBy (w.setCells g o vs) (some g)
 | [], o, w => aA5 (lS _ _) _
 | v :: r, o, w => aB8 (aA0 w g o v) (aX7 g r (o + 1) _) (.inl rfl)
theorem bO7 {w : World} (ty : TypeId) (base : Nat) (v : Value) (l : List UInt8) (d8 : Got w base v l) (B : Nat) (A : Option Addr) (c : Nat) (q : List UInt8) (m2 : Rd w B A (cells q)) (m0 : l.length + q.length <= 1099511627776) (e9 : base <= w.heap.size) :
  ∃ v' w', (Builtin.append_ #[34, 34] ty #[v, .slice A q.length c]).run Tryz.prog w = .ok v' w' ∧ Got w' base v' (l ++ q) ∧ w.grownBy w' v.ownBlock ∧ (∀ k, v'.ownBlock = some k -> v.ownBlock = some k ∨ w.heap.size <= k) := by
 obtain ⟨i, hi, hz, a7, j6⟩ := info_parts aG0;have f9 : ∀ u ∈ cells q, u.oneCell' = true := aZ7 q
 rcases Nat.eq_zero_or_pos q.length with h0 | h0
 ·have hq : q = [] := mD h0
  subst hq;refine ⟨v, w, ?_, by simpa using d8, aA5 (lS _ _) _, fun k hk => .inl hk⟩;rcases d8.row with hv | ⟨g', n, cap, i6, hv, _, _, _, j8, _⟩
  ·subst hv
   cases A <;> simp [Builtin.append_, run_underlying Tryz.underlying34, sizeOf, typeInfo, hi, Builtin.lenOf, Builtin.firstCells, loadCells, loadCellsFrom]
  subst hv;cases A <;> simp [Builtin.append_, run_underlying Tryz.underlying34, sizeOf, typeInfo, hi, Builtin.lenOf, Builtin.firstCells, j8, storeCells, loadCells, loadCellsFrom]
 obtain ⟨ad, rfl, _, hc⟩ := m2 (by rw [aA2]; exact h0);have i3 : (cells q).length = q.length * 1 := by rw [aA2, Nat.mul_one]
 obtain ⟨A0, c0, i4, l9, f8, g6⟩ := d8.shape;rcases d8.row with hv | ⟨g', n, cap, i6, hv, l6, b8, i2, j8, g8⟩
 ·have l8 : l = [] := by
   rw [i4] at hv;injection hv with _ hv _
   exact mD hv
  subst l8;subst hv;obtain ⟨v', w', a8, h2, h3, _⟩ := run_append_own (P := Tryz.prog) w w.heap.size 34 ty 5 i (.int .u8 0) 1 1 Tryz.underlying34 hi hz a7 j6 rfl (by decide) (.slice none 0 0) 0 [] (World.ownsRow_nil _ _ _ _) ad q.length c (cells q) i3 hc f9 (by unfold maxLen; omega) (by omega) (lR _);have a9 : Bs w' w.heap.size v' q := by unfold Bs Own; rw [aA2]; simpa using h2
  refine ⟨v', w', a8, by simpa using (Got.of_own a9).mono e9, h3, fun k hk => .inr ?_⟩;exact (World.ownsRow.lt a9 k hk).1
 have l4 := i4.symm.trans hv;injection l4 with e1 e2 e3
 subst e1 e2 e3;subst i4;by_cases hroom : l.length + q.length <= c0
 ·have l5 : ∀ j, j < (cells q).length -> (w.cell? ⟨g', 0 + l.length * i.size + j, none⟩).isSome = true := fun j hj => by
   rw [a7, Nat.zero_add, Nat.mul_one, b8.cell, Array.getElem?_eq_getElem (by rw [aA2] at hj; omega)]
   rfl
  have a8 := run_append_room_cells (P := Tryz.prog) w 34 ty 5 i Tryz.underlying34 hi g' 0 l.length c0 ad q.length c (cells q) (by rw [a7]; exact i3) hc f9 hroom l5 (fun j hj => b8.frozen _);rw [a7, Nat.zero_add, Nat.mul_one] at a8;obtain ⟨g7, k1, k2, k3, k4⟩ := bE6 (cells q) l.length w i6 b8;have l7 := aX7 g' (cells q) l.length w;refine ⟨_, _, a8, ⟨⟨some ⟨g', 0, none⟩, c0, by rw [lT], by rw [lT]; exact hroom, f8, fun _ => ⟨_, rfl, k1.lt, fun j u hj => ?_⟩⟩, .inr ⟨g', _, c0, g7, rfl, l6, k1, by rw [k2]; exact i2, by omega, g8⟩⟩, by simpa [Value.ownBlock] using l7, fun k hk => .inl (by simpa [Value.ownBlock] using hk)⟩;rw [Addr.add_lit, Nat.zero_add, k1.cell];have m3 : j < l.length + q.length := by
   have := (List.getElem?_eq_some_iff.1 hj).1
   simpa [cells] using this
  by_cases hjn : j < l.length
  ·rw [k3 j hjn]
   have h5 : (cells l)[j]? = some u := by rw [<- hj]; simp only [cells, mE]; rw [List.getElem?_append_left (by rw [lU]; exact hjn)]
   obtain ⟨j9, f7, _, g9⟩ := g6 (by rw [aA2]; omega);injection f7 with f7
   subst f7;have h6 := g9 j u h5;rw [Addr.add_lit, Nat.zero_add, b8.cell] at h6;exact h6
  have h5 := k4 (j - l.length) (by rw [aA2]; omega) (by rw [aA2]; omega);rw [show l.length + (j - l.length) = j by omega] at h5;rw [h5, <- hj];simp only [cells, mE];rw [List.getElem?_append_right (by rw [lU]; omega), lU, <- lW]
 have i1 : ∀ j u, (cells l)[j]? = some u -> w.cell? ((⟨g', 0, none⟩ : Addr).add j) = some u := fun j u hj => by
  obtain ⟨j9, f7, _, g9⟩ := g6 (by
   have := (List.getElem?_eq_some_iff.1 hj).1;omega)
  injection f7 with f7
  subst f7;exact g9 j u hj
 obtain ⟨v', w', a8, r1, r2⟩ := run_append_arg_grows (P := Tryz.prog) w 34 ty 5 i (.int .u8 0) 1 1 Tryz.underlying34 hi hz a7 j6 rfl (by decide) ⟨g', 0, none⟩ l.length c0 (cells l) (by rw [aA2, Nat.mul_one]) i1 ad q.length c (cells q) i3 hc (by omega) (by unfold maxLen; omega) (by omega);have e : cells l ++ cells q = cells (l ++ q) := by simp [cells]
 rw [e] at r1;have a9 : Bs w' w.heap.size v' (l ++ q) := by unfold Bs Own; rw [aA2, lT]; exact r1
 exact ⟨v', w', a8, (Got.of_own a9).mono e9, aA5 (aG5 r2) _, fun k hk => .inr (World.ownsRow.lt a9 k hk).1⟩
theorem aY1 {w : World} {o : Oper} {a : Act} {K : Act -> World -> Prop} {Q : Exit -> Act -> World -> Prop} (s x : Operand)
  (ho : o.op = .call { callee := .builtin .append, args := #[s, x], argTypes := #[34, 34] })
  (base : Nat) (v : Value) (l : List UInt8) (hs : a.eval s = v) (a8 : Got w base v l) (B : Nat) (A : Option Addr) (c : Nat) (q : List UInt8) (hx : a.eval x = .slice A q.length c) (d8 : Rd w B A (cells q)) (a9 : l.length + q.length <= 1099511627776) (a7 : base <= w.heap.size)
  (h : ∀ v' w', Got w' base v' (l ++ q) -> w.grownBy w' v.ownBlock -> (∀ k, v'.ownBlock = some k -> v.ownBlock = some k ∨ w.heap.size <= k) -> K (a.put o.dst v') w') : o.wp Tryz.prog a w K Q := by
 obtain ⟨v', w', b8, h1, h2, h3⟩ := bO7 o.type base v l a8 B A c q d8 a9 a7;unfold Oper.wp execOp;simp only [ho, resolve, invoke, builtin, Sem.run_bind, Sem.run_pure, Result.andThen_ok, List.map_toArray, mG, List.map_nil, hs, hx, b8];exact h v' w' h1 h2 h3
end
section
open Go.RowKit Go.Maps Go.Sort Oct
theorem cT1 {left : Int} {ps : List Row} {k : Nat} (hk : k < ps.length) : fits left ((ps.drop k).map Row.l) = (decide ((ps[k].l.length : Int) <= left) && fits (left - ps[k].l.length) ((ps.drop (k + 1)).map Row.l)) := by
 rw [<- List.getElem_cons_drop hk, mG, fits]
theorem dA6 (p : PWD) (h : -9223372036854775808 <= p.part ∧ p.part <= 9223372036854775807) : -9223372036854775808 <= p.cut.2.1 ∧ p.cut.2.1 <= 9223372036854775807 := by
 unfold PWD.cut;split
 ·exact ⟨by show (-9223372036854775808 : Int) <= 0; decide, by show (0 : Int) <= _; decide⟩
 split
 ·exact ⟨by show (-9223372036854775808 : Int) <= 0; decide, by show (0 : Int) <= _; decide⟩
 exact h
section
variable {w w1 w2 w' : World} {base g m : Nat} {p p' : PWD} {room : Int} {es : List (Nm × FE)}
structure dH8 (w w3 : World) (base g m : Nat) (p' : PWD) (room : Int) (es : List (Nm × FE)) (n : Nm) (es1 : List (Nm × FE)) (fe : FE) : Prop where
 at_ : aB0 w3 base g m p' room es1
 fr : Fr (aA8 g m es) w w3
 foot : ∀ k, aA8 g m es1 k -> aA8 g m es k ∨ w.heap.size <= k
 got : aA9 n es1 = some fe
 f : fe.f = (aA9 n (sec FE.f es)).getD ⟨[], 0⟩
 fs : ∀ f', aB3 n f' (sec FE.f es1) = aB3 n f' (sec FE.f es)
theorem aB4.step2 {es' : List (Nm × FE)} {d : DkD} (hf : Fr (aA8 g m es) w w1) (a7 : ∀ k, aA8 g m es' k -> aA8 g m es k ∨ w.heap.size <= k) (h : aB4 w1 base g m es' d w2) : aB4 w base g m es d w2 := by
 obtain ⟨es2, h1, h2, h3, h4⟩ := h;refine ⟨es2, h1, h2, hf.trans h3 a7, fun k hk => ?_⟩;rcases h4 k hk with h5 | h5
 ·exact a7 k h5
 exact .inr (Nat.le_trans hf.size h5)
theorem dG7 (part : Int) (l : List UInt8) : (cQ4 part l).length <= l.length := by
 unfold cQ4;rw [lV];omega
theorem dB9 {n : Nm} (h : ∀ q ∈ es, q.2.f.b.length <= 549755813888) : ((aA9 n (sec FE.f es)).getD ⟨[], 0⟩).b.length <= 549755813888 := by
 cases hg : aA9 n es with
 | none => rw [aY6 hg]; exact Nat.zero_le _
 | some fe => rw [aL6 hg]; exact h _ (aC7 hg)
theorem cR0 (n : Nm) {α : Type} (b : α) (l : List (Nm × α)) : aB6 n (asIns (n, b) l) = aB6 n l := by
 induction l with
 | nil => simp [asIns, aB6]
 | cons y r ih =>
  unfold asIns;split
  ·simp [aB6]
  unfold aB6 at ih ⊢;rw [List.filter_cons, List.filter_cons, ih]
theorem cQ9 (n : Nm) {α : Type} (l : List (Nm × α)) : aB6 n (aB6 n l) = aB6 n l := by
 unfold aB6;rw [List.filter_filter]
 congr 1
 funext p
 simp
theorem bW2 (n : Nm) {α : Type} (a b : α) (l : List (Nm × α)) : aB3 n a (aB3 n b l) = aB3 n a l := by
 unfold aB3;rw [cR0, cQ9]
theorem aL7 (n : Nm) {α : Type} (a : α) (l : List (Nm × α)) : aA9 n (aB3 n a l) = some a := by
 unfold aB3 aA9;have key : ∀ r : List (Nm × α), (∀ p ∈ r, (p.1 == n) = false) -> (asIns (n, a) r).find? (fun p => p.1 == n) = some (n, a) := by
  intro r;induction r with
  | nil => intro _; simp [asIns]
  | cons y r ih =>
   intro hr;unfold asIns;split
   ·rw [List.find?_cons_of_pos (by simp)]
   rw [List.find?_cons_of_neg (by rw [hr y (List.mem_cons_self ..)]; simp)];exact ih fun p hp => hr p (List.mem_cons_of_mem _ hp)
 rw [key _ (fun p hp => by have := (aI5.1 hp).2; simpa using this)]
 rfl
theorem dI2 {w3 wB w4 : World} (h : aB0 w3 base g m p' room es) (hf : Fr (aA8 g m es) w w3) (hb : Below w3.heap.size w3 wB) (hK : Blk wB w3.heap.size 83 #[.slice none 0 0, .int .i64 0]) {n : Nm} (hn : aA9 n es = none) (hm : aG2 Tryz.prog 9 w4 m (aB3 n w3.heap.size (sec FE.blk es))) (hg : wB.grownBy w4 (some m)) :
  dH8 w w4 base g m p' room es n (aB3 n ⟨w3.heap.size, .slice none 0 0, ⟨[], 0⟩⟩ es) ⟨w3.heap.size, .slice none 0 0, ⟨[], 0⟩⟩ := by
 have hB := h.below hb;have a8 := h.map.lt;have a7 : Blk w4 w3.heap.size 83 #[.slice none 0 0, .int .i64 0] := hK.grown hg (fun e => by injection e with e; omega);refine ⟨hB.file_new ⟨w3.heap.size, .slice none 0 0, ⟨[], 0⟩⟩ (fun q hq _ => ⟨fun e => ?_, fun k _ e => by cases e⟩) hg.size a7 ⟨⟨none, 0, rfl, lR _, by decide, Rd.none_⟩, .inl rfl⟩ (lR _) ?_ hm (fun k hk hn => hg.block k hk (fun e => hn (by injection e))), ?_, fun k hk => ?_, aL7 _ _ _, ?_, fun f' => by rw [aU2, bW2]⟩
 ·have h1 := (h.file q hq).lt
  have e' : q.2.blk = w3.heap.size := e;omega
 ·have h1 := h.low.1
  have h2 := h.blk.lt;show base <= w3.heap.size
  omega
 ·refine hf.trans (mine' := aA8 g m es) ⟨hg.os.trans hb.os, hg.tape.trans hb.tape, hg.output.trans hb.output, Nat.le_trans hb.size hg.size, fun k hk hnn => ?_⟩ (fun j hj => .inl hj)
  exact (hg.block k (Nat.lt_of_lt_of_le hk hb.size) (fun e => hnn (by injection e with e; exact .inr (.inl e)))).trans (hb.block k hk)
 ·refine bH1 hk (fun e => .inr ?_) (fun e => by cases e)
  have e' : w3.heap.size = k := e;have := hf.size;omega
 rw [aY6 hn]; rfl
theorem dM5 {P : Program} {t : TypeId} {w3 wB w4 : World} {A : Option Addr} {xs : List Value} {l : List (Nm × Nat)} (h : Rd w3 w3.heap.size A xs) (hb : Below w3.heap.size w3 wB) (hg : wB.grownBy w4 (some m)) (hm : aG2 P t w3 m l) : Rd w4 w4.heap.size A xs := by
 intro hn;obtain ⟨ad, e1, e2, e3⟩ := h hn;refine ⟨ad, e1, by have := hb.size; have := hg.size; omega, fun j u hj => ?_⟩;have h1 := e3 j u hj;have a8 : ad.block ≠ m := fun e => by
  obtain ⟨es', a7, h2, _⟩ := hm;unfold World.cell? at h1;rw [aC5, e, h2] at h1;split at h1 <;> simp_all
 exact (World.cell?_of_block (w := wB) (by rw [aC5]; exact hg.block ad.block (by have := hb.size; omega) (fun e => by injection e with e; exact a8 e))).trans ((hb.cell (by rw [aC5]; exact e2)).trans h1)
theorem cD5 (h : aB0 w base g m p room es) (s : ByteArray) (hs : s.size <= 140737488351232) (A : Option Addr) (ps : List Row) (c : Nat) (o7 : Rd w w.heap.size A (ps.map Row.val)) (hp : RRd w w.heap.size ps) (B8 : ps.length <= c) (D4 : ps.length <= 1000000000) (x4 : (aG6 ps).length <= 274877906944)
  (n8 : ∀ q ∈ es, q.2.f.b.length <= 549755813888) (C3 : aB7 (sec FE.f es) <= 4611686018427387904) (hl : es.length < 4398046511104) :
  Calls Tryz.prog 10 #[.pointer (some ⟨g, 0, none⟩), .string s, .slice A ps.length c] w fun e w' => e = .returned (.int .i64 ((aD2 p room es).append s.data.toList (ps.map Row.l)).1) ∧ aB4 w base g m es ((aD2 p room es).append s.data.toList (ps.map Row.l)).2 w' := by
 have H := qZ h;obtain ⟨⟨c0, c1, c2, c3, c4, c5⟩, f0, f1, f2, f3⟩ := aL8 h.blk;obtain ⟨D3, B7, D5, D6⟩ := h.num;have m0 := qZ (bX4 s w hs);have D7 := aE5 (sec FE.f es);obtain ⟨R, hR⟩ : ∃ R, R = (aD2 p room es).append s.data.toList (ps.map Row.l) := ⟨_, rfl⟩
 rw [<- hR];cases ho : p.off with
 | true =>
  have e : R = (50, aD2 p room es) := by rw [hR]; unfold DkD.append; rw [if_pos ho]
  have HE := qZ e;rw [ho] at c0;clear h hR e ho o7 hp n8;go_enter Tryz.func10, Tryz.ntmps10
  go_wp2_with fail
  go_ret
  exact ⟨by rw [HE.out]; rfl, by rw [HE.out]; exact aB4.mk' H.out (Fr.refl _ _)⟩
 | false =>
  have m5 : ¬ p.off = true := by rw [ho]; simp
  rw [ho] at c0;cases hnb : bC8 s.data.toList with
  | false =>
   have e : R = (1, aD2 p room es) := by
    rw [hR]; unfold DkD.append; rw [if_neg m5, if_pos (nameB_false hnb)]
   have HE := qZ e;rw [hnb] at m0;clear h hR e ho m5 hnb o7 hp n8;go_enter Tryz.func10, Tryz.ntmps10
   go_wp2_with fail
   refine m0.out.mono ?_;rintro e w' ⟨rfl, rfl⟩;go_wp2_with fail
   go_ret
   exact ⟨by rw [HE.out]; rfl, by rw [HE.out]; exact aB4.mk' H.out (Fr.refl _ _)⟩
  | true =>
   obtain ⟨n1, n2⟩ := bQ9 hnb;have i6 : ¬ (s.data.toList = [] ∨ 32 < s.data.toList.length) := fun e => e.elim n1 n2
   have q7 : Hid (fits (room - aB7 (sec FE.f es)) (ps.map Row.l) = false -> R = (52, aD2 p room es)) := qZ fun hf => by
    rw [hR]; unfold DkD.append; rw [if_neg m5, if_neg i6, if_pos (show fits (aD2 p room es).free _ = false from hf)]
   have t8 : Hid (fits (room - aB7 (sec FE.f es)) (ps.map Row.l) = true -> R = (if p.cut.1 = true then 50 else 0, ⟨p.cut.2.2, room, aB3 s.data.toList ⟨((aA9 s.data.toList (sec FE.f es)).getD ⟨[], 0⟩).b ++ (if p.cut.1 = true then cQ4 p.cut.2.1 (aG6 ps) else aG6 ps), ((aA9 s.data.toList (sec FE.f es)).getD ⟨[], 0⟩).safe⟩ (sec FE.f es)⟩)) := qZ fun hf => by
    rw [hR]; unfold DkD.append; rw [if_neg m5, if_neg i6, if_neg (by rw [show (aD2 p room es).free = room - aB7 (sec FE.f es) from rfl, hf]; simp)]
    rfl
   rw [hnb] at m0;have s9 := qZ (bH2 h C3);have l5 := qZ (And.intro o7 (And.intro hp n8));clear h hR ho m5 hnb o7 hp n8 n1 n2 i6;go_enter Tryz.func10, Tryz.ntmps10
   go_wp2_with fail
   refine m0.out.mono ?_;rintro e w' ⟨rfl, rfl⟩;go_wp2_with fail
   refine s9.out.mono ?_;rintro e w1 ⟨rfl, p4⟩;have j8 := qZ p4;have q6 := p4.size;clear c0 c1 c2 c3 c4 c5 f0 f1 f2 f3 p4 m0 s9;go_wp2_with fail
   go_loop [27, 7, 9] (fun i left pv => ∃ (k : Nat) (lf : Int), i = .int .i64 k ∧ k <= ps.length ∧ left = .int .i64 lf ∧ -4611686018427387904 <= lf ∧ lf <= 9223372036854775807 ∧ Hid (fits (room - aB7 (sec FE.f es)) (ps.map Row.l) = fits lf ((ps.drop k).map Row.l))) (fun i _ _ => ps.length - (intOf i).toNat)
   case atStart => exact ⟨0, room - aB7 (sec FE.f es), rfl, Nat.zero_le _, rfl, by omega, by omega, qZ rfl⟩
   obtain ⟨k, lf, rfl, hk, rfl, B4, B5, l4⟩ := hrel;by_cases hlt : k < ps.length
   ·have q5 : (k : Int) < ps.length := by omega
    obtain ⟨ad, rfl, C9, f8⟩ := bG6 (l5.out.1.below j8.out) hlt;have l6 := qZ (cT1 (left := lf) hlt);have m6 : ps[k].l.length <= 4611686018427387904 := (l5.out.2.1 _ (lX hlt)).2;generalize ps[k] = q at f8 l6 m6
    obtain ⟨qa, ql, qc⟩ := q;simp only [Row.val] at f8 l6 m6;by_cases hle : (ql.length : Int) <= lf
    ·have HN := qZ (show fits (room - aB7 (sec FE.f es)) (ps.map Row.l) = fits (lf - ql.length) ((ps.drop (k + 1)).map Row.l) by rw [l4.out, l6.out, decide_eq_true hle, Bool.true_and])
     clear l6 l4;go_wp2;go_round
     case rel => exact ⟨k + 1, lf - ql.length, by go_num, by omega, rfl, by omega, by omega, HN⟩
     case measure => simp [intOf]; omega
    have HN := qZ (q7.out (by rw [l4.out, l6.out, decide_eq_false hle, Bool.false_and]));have a8 : lf < (ql.length : Int) := by omega
    clear l6 l4 hle;go_wp2;go_ret
    exact ⟨by rw [HN.out]; rfl, by rw [HN.out]; exact aB4.mk' (H.out.below j8.out) (Fr.of_below _ j8.out)⟩
   have x6 : k = ps.length := by omega
   have HR := qZ (t8.out (by rw [l4.out, x6, List.drop_length]; rfl));have q5 : ¬ (k : Int) < ps.length := by omega
   clear l4 q7 t8 x6;have HJ := qZ (bT2 A ps ps.length c rfl w1 ((l5.out.1.below j8.out).more q6) (fun q hq => ⟨((l5.out.2.1 q hq).1.below j8.out).more q6, (l5.out.2.1 q hq).2⟩) (by omega) (by omega) B8);go_wp2_with fail
   refine HJ.out.mono ?_;rintro e w2 ⟨v, rfl, p7, p5⟩;obtain ⟨Ap, cp, rfl, D1, z8, B9⟩ := p7.shape;have q8 := qZ (j8.out.trans (p5.mono q6));have D8 := p5.size;have HC := qZ (bA0 (H.out.below q8.out));have m7 := qZ p7;clear p7 p5 HJ B9;go_wp2_with fail
   refine HC.out.mono ?_;rintro e w3 ⟨rfl, n6, p0, C0⟩;have r9 := qZ ((Fr.of_below (aA8 g m es) q8.out).trans p0 (fun j hj => .inl hj));have x5 : Got w3 w1.heap.size (.slice Ap (aG6 ps).length cp) (aG6 ps) := m7.out.kept (fun q hq => p0.block q (m7.out.row.lt q hq) (fun hf => by
    have h5 := (H.out.lt q hf).2;have h6 := m7.out.row.base q hq;omega)) (by omega)
   have g7 : Hid (Rd w3 w3.heap.size Ap (cells (aG6 ps))) := qZ (by
    obtain ⟨A', c', e1, _, _, e2⟩ := x5.shape;injection e1 with e1 _ _
    subst e1;exact e2)
   clear m7 x5;have m8 := qZ (dA6 p B7);generalize p.cut = c at HR n6 m8 ⊢
   obtain ⟨e9, part, p'⟩ := c;simp only at n6 m8 ⊢;have j9 := qZ n6;obtain ⟨Q, hQ⟩ : ∃ Q, Q = if e9 = true then cQ4 part (aG6 ps) else aG6 ps := ⟨_, rfl⟩
   have g6 : Hid (R = (if e9 = true then 50 else 0, ⟨p', room, aB3 s.data.toList ⟨((aA9 s.data.toList (sec FE.f es)).getD ⟨[], 0⟩).b ++ Q, ((aA9 s.data.toList (sec FE.f es)).getD ⟨[], 0⟩).safe⟩ (sec FE.f es)⟩)) := qZ (by rw [hQ]; exact HR.out);have HQ := qZ hQ;have C1 : w2.heap.size <= w3.heap.size := by omega
   clear n6 p0 HC HR hQ C0;go_upto_if 49 with fail
   go_cut [10] (fun v wx => ∃ Aq cq, v = .slice Aq Q.length cq ∧ Hid (Rd w3 w3.heap.size Aq (cells Q)) ∧ wx = w3)
   case first =>
    cases e9 with
    | false =>
     obtain rfl : Q = aG6 ps := by rw [HQ.out]; simp
     clear HQ g6;go_wp2_with fail
     go_meet;exact ⟨Ap, cp, rfl, g7, rfl⟩
    | true =>
     have e : Q = cQ4 part (aG6 ps) := by rw [HQ.out]; simp
     have i4 := qZ (cI5 part ((aG6 ps).length + 1) m8.out ⟨by omega, by omega⟩ w3);obtain ⟨K, hK⟩ : ∃ K : Nat, part % ((aG6 ps).length + 1 : Int) = K := ⟨(part % ((aG6 ps).length + 1 : Int)).toNat, by have := Int.emod_nonneg part (show ((aG6 ps).length + 1 : Int) ≠ 0 by omega); omega⟩
     have C7 : K <= (aG6 ps).length := by have := Int.emod_lt_of_pos part (show 0 < ((aG6 ps).length + 1 : Int) by omega); omega
     have e2 : Q = (aG6 ps).take K := by rw [e]; unfold cQ4; rw [hK]; rfl
     have e3 : Q.length = K := by rw [e2, lV]; omega
     rw [hK] at i4;have hcut := fun W : World => bR3 (P := Tryz.prog) Tryz.underlying34 aG0 Ap (aG6 ps).length cp K (by omega) (K : Int) rfl W
     have HE := qZ e3;have b8 : Hid (Rd w3 w3.heap.size Ap (cells Q)) := qZ (by
      rw [e2];have := g7.out.take K
      rwa [show (cells (aG6 ps)).take K = cells ((aG6 ps).take K) by simp [cells, List.map_take]] at this)
     clear e e2 e3 hK HQ g6;go_wp2_with fail
     refine i4.out.mono ?_;rintro e w' ⟨rfl, rfl⟩;clear i4;go_wp2_with fail
     go_meet;exact ⟨Ap, cp, by rw [HE.out], b8, rfl⟩
   obtain ⟨Aq, cq, rfl, o9, rfl⟩ := hcut;obtain ⟨w3, C5⟩ : ∃ u, u = wc := ⟨_, rfl⟩
   subst C5;have p9 := j9.out.map.get Tryz.underlying9 Tryz.underlying59 (aX3 w3) s (by unfold maxLen; omega);rw [aJ4] at p9;have o8 := qZ p9;obtain ⟨⟨c0, c1, c2, c3, c4, c5⟩, f0, f1, f2, f3⟩ := aL8 j9.out.blk;clear p9 g7 m8;go_upto_region 17 with fail
   go_cut [63] (fun v wx => v = .bool (aA9 s.data.toList es).isNone ∧ wx = w3)
   case first =>
    cases a8 : aA9 s.data.toList es with
    | none =>
     have i2 := o8.out;rw [a8] at i2;have B2 : (Instr.lookup 59 (.map (some m)) (.string s) false).run Tryz.prog w3 = .ok (.pointer none) w3 := i2;have d8 := qZ a8;clear i2 a8;go_wp2_with fail
     go_meet;exact ⟨by rw [d8.out]; rfl, rfl⟩
    | some fe =>
     have i2 := o8.out;rw [a8] at i2;have B2 : (Instr.lookup 59 (.map (some m)) (.string s) false).run Tryz.prog w3 = .ok (.pointer (some ⟨fe.blk, 0, none⟩)) w3 := i2;have d8 := qZ a8;clear i2 a8;go_wp2_with fail
     go_meet;exact ⟨by rw [d8.out]; rfl, rfl⟩
   obtain ⟨y9, C6⟩ := hcut;subst y9;subst C6;go_upto_if 63 with fail
   go_cut [] (fun wx => ∃ i1 a7, Hid (dH8 w wx base g m p' room es s.data.toList i1 a7) ∧ Hid (Rd wx wx.heap.size Aq (cells Q)))
   case first =>
    cases a8 : aA9 s.data.toList es with
    | some fe =>
     have b8 : Hid (dH8 w wc base g m p' room es s.data.toList es fe) := qZ ⟨j9.out, r9.out, fun k hk => .inl hk, a8, by rw [aL6 a8]; rfl, fun _ => rfl⟩;have D0 : (some fe).isNone = false := rfl;clear a8;go_wp2_with fail
     go_meet;exact ⟨es, fe, b8, o9⟩
    | none =>
     have p6 : Below wc.heap.size wc (wc.alloc (.cells #[.slice none 0 0, .int .i64 0] 83)) := (lS _ wc).alloc (lR _) _;have y7 := qZ (j9.out.below p6);have y8 := qZ (Blk.new wc 83 #[.slice none 0 0, .int .i64 0]);have q9 := qZ p6;have B6 : (sec FE.blk es).length < maxLen := by rw [lU]; unfold maxLen; omega
     have C2 : s.size <= maxLen := by unfold maxLen; omega
     have d8 := qZ a8;clear p6 a8;go_wp2_with (at_mapUpdate; refine bO9 rfl (.tmp 67) (.tmp 68) (.tmp 70) 59 rfl Tryz.underlying9 Tryz.underlying59 y7.out.map B6 s C2 wc.heap.size rfl rfl rfl ?_; intro w4 x7 p8)
     have b8 := qZ (dI2 j9.out r9.out q9.out y8.out d8.out x7 p8);have g8 := qZ (dM5 o9.out q9.out p8 j9.out.map);clear x7 p8;go_frame
     go_meet;exact ⟨_, _, b8, g8⟩
   obtain ⟨i1, a7, HA, g8⟩ := hcut;have l8 : Hid (∀ W, aG2 Tryz.prog 9 W m (sec FE.blk i1) -> (Instr.lookup 59 (.map (some m)) (.string s) false).run Tryz.prog W = .ok (.pointer (some ⟨a7.blk, 0, none⟩)) W) := qZ fun W hW => by
    have h1 := hW.get Tryz.underlying9 Tryz.underlying59 (aX3 W) s (by unfold maxLen; omega);rw [aJ4, HA.out.got] at h1;exact h1
   have i3 := aC7 HA.out.got;have hK : Blk wc a7.blk 83 #[a7.v, .int .i64 a7.f.safe] := HA.out.at_.file _ i3;have a8 : Got wc base a7.v a7.f.b := HA.out.at_.got _ i3;obtain ⟨A1, t9, x8, _, _, _⟩ := a8.shape;have j6 : a7.v = .slice A1 a7.f.b.length t9 := x8;have z9 : a7.f.b.length <= 549755813888 := by rw [HA.out.f]; exact dB9 l5.out.2.2
   have C8 : Q.length <= 274877906944 := by
    rw [HQ.out];split
    ·exact Nat.le_trans (dG7 _ _) x4
    exact x4
   obtain ⟨⟨_, _, _, _, _, d5⟩, _, _, _, _⟩ := aL8 HA.out.at_.blk;have e0 : wc.cell? ⟨a7.blk, 0, none⟩ = some a7.v := hK.cell 0;rw [j6] at e0;have z7 : base <= wc.heap.size := by have := HA.out.at_.low.1; have := HA.out.at_.blk.lt; omega
   have l9 := HA.out.at_.map;have d8 := qZ a8;have t7 := qZ hK;have m9 := qZ j6;clear c0 c1 c2 c3 c4 c5 f0 f1 f2 f3 a8 hK x8 j6 i3 o8 o9;go_wp2_with fail
   refine aD4 19 (by kernel_rfl) (S := fun W => W.cell? ⟨g, 5, none⟩ = some (.map (some m)) ∧ aG2 Tryz.prog 9 W m (sec FE.blk i1) ∧ W.cell? ⟨a7.blk, 0, none⟩ = some (.slice A1 a7.f.b.length t9) ∧ True) ⟨d5, l9, e0, trivial⟩ (fun hHeld => ?_);refine zU 0 (k := ?_);refine zU 1 (k := ?_);refine zU 2 (k := ?_);refine zU 3 (k := ?_);refine zU 4 (k := ?_);simp only [zA, zB, zF, zG, zC, zD, zE];refine aP2 5 (v := ?_) (by simp) (by kernel_rfl) (by kernel_rfl) (by kernel_rfl) (by kernel_rfl) (fun _ _ _ h => h) (Or.inl ⟨by rfl, ?_⟩) hHeld ?_
   case refine_2 => (intro w m3; (try dsimp only at m3); obtain ⟨s0, s1, s2, s3⟩ := m3; have hl := l8.out w s1; simp only [List.getElem_cons_zero, List.getElem_cons_succ]; go_simp <;> with_reducible rfl)
   simp only [List.getElem_cons_zero, List.getElem_cons_succ, Act.put, List.setIfInBounds_toArray, List.set_cons_zero, List.set_cons_succ];refine zU 6 (k := ?_);refine zU 7 (k := ?_);refine zU 8 (k := ?_);refine zU 9 (k := ?_);refine zU 10 (k := ?_);simp only [zA, zB, zF, zG, zC, zD, zE];refine aP2 11 (v := ?_) (by simp) (by kernel_rfl) (by kernel_rfl) (by kernel_rfl) (by kernel_rfl) (fun _ _ _ h => h) (Or.inl ⟨by rfl, ?_⟩) hHeld ?_
   case refine_2 => (intro w m3; (try dsimp only at m3); obtain ⟨s0, s1, s2, s3⟩ := m3; have hl := l8.out w s1; simp only [List.getElem_cons_zero, List.getElem_cons_succ]; go_simp <;> with_reducible rfl)
   simp only [List.getElem_cons_zero, List.getElem_cons_succ, Act.put, List.setIfInBounds_toArray, List.set_cons_zero, List.set_cons_succ];refine zU 12 (k := ?_);refine zU 13 (k := ?_);refine zU 14 (k := ?_);refine zU 15 (k := ?_);simp only [zA, zB, zF, zG, zC, zD, zE];refine zW 16 (k := fun K hK => ?_);simp only [zA, zB];rw [if_pos (by rfl)];refine aY1 (w := wc.drew) (.tmp 85) (.tmp 86) rfl base _ a7.f.b rfl (by rw [<- m9.out]; exact d8.out.kept (fun _ _ => rfl) (lR _)) wc.heap.size Aq cq Q rfl (g8.out.keep fun _ _ => rfl) (by omega) z7 ?_;intro v5 w5 n9 a9 m4;obtain ⟨A5, g9, C4, _, _, _⟩ := n9.shape;subst C4;have f7 : wc.grownBy w5 a7.v.ownBlock := by rw [m9.out]; exact ⟨a9.os, a9.tape, a9.output, a9.size, a9.block⟩
   have m2 : Blk w5 a7.blk 83 #[a7.v, .int .i64 a7.f.safe] := t7.out.grown f7 (fun e => aF0 d8.out t7.out (by decide) e.symm);have B1 : g ≠ m := aM3 HA.out.at_.blk HA.out.at_.map;have e5 : w5.cell? ⟨g, 5, none⟩ = some (.map (some m)) := (World.cell?_of_block (w := wc) (f7.block g HA.out.at_.blk.lt (fun e => aF0 d8.out HA.out.at_.blk (by decide) e.symm))).trans d5;have n7 : aG2 Tryz.prog 9 w5 m (sec FE.blk i1) := l9.keep (f7.block m l9.lt (fun e => aR6 d8.out l9 e.symm));have b0 : w5.cell? ⟨a7.blk, 0, none⟩ = some a7.v := m2.cell 0;have bf := m2.frozen 0;rw [m9.out] at b0;have l7 := aA0 w5 a7.blk 0 (.slice A5 (a7.f.b ++ Q).length g9);have f9 : Got (w5.setCell ⟨a7.blk, 0, none⟩ (.slice A5 (a7.f.b ++ Q).length g9)) base (.slice A5 (a7.f.b ++ Q).length g9) (a7.f.b ++ Q) := n9.kept (fun q hq => Below.heap_setCell w5 _ _ q (fun e => aF0 n9 m2 (by decide) (by rw [hq, e]))) l7.size;have T1 : aB4 wc base g m i1 ⟨p', room, aB3 s.data.toList ⟨a7.f.b ++ Q, a7.f.safe⟩ (sec FE.f i1)⟩ (w5.setCell ⟨a7.blk, 0, none⟩ (.slice A5 (a7.f.b ++ Q).length g9)) :=
    aB4.file_set HA.out.at_ (Fr.refl _ _) HA.out.got (.slice A5 (a7.f.b ++ Q).length g9) ⟨a7.f.b ++ Q, a7.f.safe⟩ (Nat.le_trans f7.size l7.size) (Blk.set_ m2 0 _) f9 (by have := HA.out.at_.safe _ (aC7 HA.out.got); show a7.f.safe <= (a7.f.b ++ Q).length; rw [lT]; exact Nat.le_trans this (Nat.le_add_right _ _))
     (fun k hk => by
      rcases m4 k hk with h1 | h1
      ·exact .inl (by rw [m9.out]; exact h1)
      exact .inr h1) (fun k hk h1 h2 => (Below.heap_setCell w5 _ _ k (fun e => h1 e)).trans (f7.block k hk (fun e => h2 e.symm))) ⟨l7.os.trans f7.os, l7.tape.trans f7.tape, l7.output.trans f7.output⟩
   have T2 := aB4.step2 HA.out.fr HA.out.foot T1;have HT : Hid (aB4 w base g m es R.2 (w5.setCell ⟨a7.blk, 0, none⟩ (.slice A5 (a7.f.b ++ Q).length g9))) := qZ (by
    rw [g6.out];rw [HA.out.fs] at T2;have e6 := HA.out.f;rw [e6] at T2;rw [e6];exact T2)
   clear T1 T2 f9 n9 a9 m4 f7 l7;refine hK.out _ _ ⟨e5, n7, b0, trivial⟩ (fun hHeld => ?_);clear hK K;try simp only [zF, zG, zC, zD, zE]
   refine zW 17 (k := fun K hK => ?_);simp only [zA, zB];go_simp;refine hK.out _ _ ⟨e5, n7, b0, trivial⟩ (fun hHeld => ?_);clear hK K;try simp only [zF, zG, zC, zD, zE]
   refine zW 18 (k := fun K hK => ?_);simp only [zA, zB];go_simp;refine hK.out _ _ ⟨e5, n7, b0, trivial⟩ (fun hHeld => ?_);clear hK K;try simp only [zF, zG, zC, zD, zE]
   refine aH0 (t := 19) (by simp) (by kernel_rfl) (by kernel_rfl) (fun K hK => ?_);simp only [zA, zB];go_simp;refine hK.out _ _ ?_;clear hK K hHeld e5 n7 b0 bf d5 e0 l9 m2;rw [lT] at HT;generalize w5.setCell ⟨a7.blk, 0, none⟩ (.slice A5 (a7.f.b.length + Q.length) g9) = w6 at HT ⊢
   cases e9 with
   | true =>
    have HE : Hid (R.1 = 50) := qZ (by rw [g6.out]; rfl);clear HQ g6;go_wp2;go_ret
    exact ⟨by rw [HE.out]; rfl, HT.out⟩
   | false =>
    have HE : Hid (R.1 = 0) := qZ (by rw [g6.out]; rfl);clear HQ g6;go_wp2;go_ret
    exact ⟨by rw [HE.out]; rfl, HT.out⟩
end
end
end Go.Proofs.YtgeofijddhflaaaGreatDoor
