/- The disk's small methods: New, cut, Up, name, modulo, find, Free. Condition: the disk is a call's own. -/
import Derived.Test.YtgeofijddhflaaaGreatDoorQDiskP
import Derived.Test.YtgeofijddhflaaaGreatDoorQSealL
import Derived.BigQuiet
import Derived.Deep.QuietTactic
set_option linter.unusedVariables false
namespace Go.Proofs.YtgeofijddhflaaaGreatDoor
open Go.RowKit Go.Maps Go.Sort Oct
structure FE where
 blk : Nat
 v : Value
 f : FD
structure Fr (mine : Nat → Prop) (w w' : World) : Prop where
 os : w'.os = w.os
 tape : w'.tape = w.tape
 output : w'.output = w.output
 size : w.heap.size ≤ w'.heap.size
 block : ∀ k, k < w.heap.size → ¬ mine k → w'.heap[k]? = w.heap[k]?
section
variable {mine mine' : Nat → Prop} {w w1 w2 w' : World}
theorem Fr.refl (mine : Nat → Prop) (w : World) : Fr mine w w := ⟨rfl, rfl, rfl, Nat.le_refl _, fun _ _ _ => rfl⟩
theorem Fr.trans (h : Fr mine w w1) (k : Fr mine' w1 w2) (hm : ∀ j, mine' j → mine j ∨ w.heap.size ≤ j) : Fr mine w w2 :=
 ⟨k.os.trans h.os, k.tape.trans h.tape, k.output.trans h.output, Nat.le_trans h.size k.size, fun j hj hn => (k.block j (Nat.lt_of_lt_of_le hj h.size) (fun e => by rcases hm j e with h1 | h1; exact hn h1; omega)).trans (h.block j hj hn)⟩
theorem Fr.of_below (mine : Nat → Prop) (h : Below w.heap.size w w') : Fr mine w w' := ⟨h.os, h.tape, h.output, h.size, fun k hk _ => h.block k hk⟩
theorem Fr.of_grown {row : Option Nat} (h : w.grownBy w' row) (hm : ∀ k, row = some k → mine k) : Fr mine w w' :=
 ⟨h.os, h.tape, h.output, h.size, fun k hk hn => h.block k hk (fun e => hn (hm k e.symm))⟩
theorem Fr.mono (h : Fr mine w w') (hm : ∀ j, j < w.heap.size → mine j → mine' j) : Fr mine' w w' := ⟨h.os, h.tape, h.output, h.size, fun k hk hn => h.block k hk (fun e => hn (hm k hk e))⟩
theorem Fr.below (h : Fr mine w w') {B : Nat} (hB : B ≤ w.heap.size) (hm : ∀ j, mine j → B ≤ j) : Below B w w' :=
 ⟨h.os, h.tape, h.output, h.size, fun k hk => h.block k (by omega) (fun e => by have := hm k e; omega)⟩
end
def DFoot (g m : Nat) (es : List (Nm × FE)) (k : Nat) : Prop := k = g ∨ k = m ∨ ∃ p ∈ es, k = p.2.blk ∨ p.2.v.ownBlock = some k
structure DiskAt (w : World) (base g m : Nat) (p : PWD) (room : Int) (es : List (Nm × FE)) : Prop where
 blk : Blk w g 61 #[.bool p.off, .bool p.armed, .int .i64 p.acts, .int .i64 p.part, .int .i64 room, .map (some m)]
 map : MapAt Tryz.prog 9 w m (sec FE.blk es)
 file : ∀ q ∈ es, Blk w q.2.blk 83 #[q.2.v, .int .i64 q.2.f.safe]
 got : ∀ q ∈ es, Got w base q.2.v q.2.f.b
 safe : ∀ q ∈ es, q.2.f.safe ≤ q.2.f.b.length
 apart : ∀ a b, a ∈ es → b ∈ es → a.1 ≠ b.1 → a.2.blk ≠ b.2.blk ∧ ∀ k, a.2.v.ownBlock = some k → b.2.v.ownBlock ≠ some k
 low : base ≤ g ∧ base ≤ m ∧ ∀ q ∈ es, base ≤ q.2.blk
 num : (-9223372036854775808 ≤ p.acts ∧ p.acts ≤ 9223372036854775807) ∧ (-9223372036854775808 ≤ p.part ∧ p.part ≤ 9223372036854775807) ∧ 0 ≤ room ∧ room ≤ 9223372036854775807
section
variable {w w' : World} {base g m : Nat} {p : PWD} {room : Int} {es : List (Nm × FE)}
theorem DiskAt.rising (h : DiskAt w base g m p room es) : Rising es := by
 have h1 := h.map.rising (string_keyed Tryz.underlying9)
 unfold Rising at h1 ⊢
 rw [List.pairwise_map] at h1
 exact h1
theorem DiskAt.lt (h : DiskAt w base g m p room es) : ∀ k, DFoot g m es k → base ≤ k ∧ k < w.heap.size := by
 intro k hk
 rcases hk with rfl | rfl | ⟨q, hq, rfl | hk⟩
 ·exact ⟨h.low.1, h.blk.lt⟩
 ·exact ⟨h.low.2.1, h.map.lt⟩
 ·exact ⟨h.low.2.2 q hq, (h.file q hq).lt⟩
 ·exact ⟨(h.got q hq).row.base k hk, (h.got q hq).row.lt k hk⟩
theorem DiskAt.keep (h : DiskAt w base g m p room es) (hs : w.heap.size ≤ w'.heap.size) (hk : ∀ k, DFoot g m es k → w'.heap[k]? = w.heap[k]?) : DiskAt w' base g m p room es :=
 ⟨(hk g (.inl rfl)).trans h.blk, h.map.keep (hk m (.inr (.inl rfl))), fun q hq => (hk q.2.blk (.inr (.inr ⟨q, hq, .inl rfl⟩))).trans (h.file q hq),
  fun q hq => (h.got q hq).kept (fun j hj => hk j (.inr (.inr ⟨q, hq, .inr hj⟩))) hs, h.safe, h.apart, h.low, h.num⟩
theorem DiskAt.below (h : DiskAt w base g m p room es) (hb : Below w.heap.size w w') : DiskAt w' base g m p room es :=
 h.keep hb.size fun k hk => hb.block k (h.lt k hk).2
theorem blk_ne {T T' : TypeId} {a b : Nat} {cs cs' : Array Value} (ha : Blk w a T cs) (hb : Blk w b T' cs') (hT : T ≠ T') : a ≠ b := fun e => by
 subst e
 have h1 : w.heap[a]? = some (Obj.cells cs T (0, 0)) := ha
 have h2 : w.heap[a]? = some (Obj.cells cs' T' (0, 0)) := hb
 rw [h1] at h2
 injection h2 with h2
 injection h2 with _ h2 _
 exact hT h2
theorem map_ne {P : Program} {k : TypeId} {T : TypeId} {a b : Nat} {cs : Array Value} {l : List (Nm × Nat)} (ha : Blk w a T cs) (hb : MapAt P k w b l) : a ≠ b := fun e => by
 subst e
 obtain ⟨es', clock, h1, _⟩ := hb
 have h2 : w.heap[a]? = some (Obj.cells cs T (0, 0)) := ha
 rw [h1] at h2
 cases h2
theorem got_blk_ne {base : Nat} {v : Value} {l : List UInt8} {T : TypeId} {a : Nat} {cs : Array Value} (h : Got w base v l) (hb : Blk w a T cs) (hT : T ≠ 5) : v.ownBlock ≠ some a := fun e => by
 rcases h.row with hv | ⟨g', n, cap, cur, hv, _, hblk, _⟩
 ·rw [hv] at e; cases e
 ·rw [hv] at e
  have e' : g' = a := by simpa [Value.ownBlock] using e
  subst e'
  exact blk_ne hb hblk hT rfl
theorem got_map_ne {P : Program} {k : TypeId} {base : Nat} {v : Value} {l : List UInt8} {a : Nat} {fs : List (Nm × Nat)} (h : Got w base v l) (hb : MapAt P k w a fs) : v.ownBlock ≠ some a := fun e => by
 rcases h.row with hv | ⟨g', n, cap, cur, hv, _, hblk, _⟩
 ·rw [hv] at e; cases e
 ·rw [hv] at e
  have e' : g' = a := by simpa [Value.ownBlock] using e
  subst e'
  exact map_ne hblk hb rfl
theorem DiskAt.power (h : DiskAt w base g m p room es) {p' : PWD} (hg : w.grownBy w' (some g)) (hB : Blk w' g 61 #[.bool p'.off, .bool p'.armed, .int .i64 p'.acts, .int .i64 p'.part, .int .i64 room, .map (some m)])
  (hn' : (-9223372036854775808 ≤ p'.acts ∧ p'.acts ≤ 9223372036854775807) ∧ (-9223372036854775808 ≤ p'.part ∧ p'.part ≤ 9223372036854775807) ∧ 0 ≤ room ∧ room ≤ 9223372036854775807) : DiskAt w' base g m p' room es := by
 have hne : ∀ k, DFoot g m es k → k ≠ g → w'.heap[k]? = w.heap[k]? := fun k hk hn => hg.block k (h.lt k hk).2 (fun e => hn (by injection e))
 refine ⟨hB, h.map.keep (hne m (.inr (.inl rfl)) (fun e => map_ne h.blk h.map e.symm)), fun q hq => (hne q.2.blk (.inr (.inr ⟨q, hq, .inl rfl⟩)) (fun e => blk_ne h.blk (h.file q hq) (by decide) e.symm)).trans (h.file q hq),
  fun q hq => (h.got q hq).kept (fun j hj => hne j (.inr (.inr ⟨q, hq, .inr hj⟩)) (fun e => got_blk_ne (h.got q hq) h.blk (by decide) (by rw [hj, e]))) hg.size, h.safe, h.apart, h.low, hn'⟩
theorem asPut_mem' {α : Type} {n : Nm} {a : α} {l : List (Nm × α)} {q : Nm × α} (h : q ∈ asPut n a l) : q = (n, a) ∨ (q ∈ l ∧ q.1 ≠ n) := asPut_mem.1 h
theorem asPut_same {α : Type} {n : Nm} {a : α} {l : List (Nm × α)} (hr : Rising l) (h : asGet n l = some a) : asPut n a l = l := by
 induction l with
 | nil => cases h
 | cons y r ih =>
  have hr' : Rising r := (List.pairwise_cons.1 hr).2
  have hlt := (List.pairwise_cons.1 hr).1
  unfold asPut asDel
  by_cases hy : y.1 = n
  ·have hyy : y = (n, a) := by
    unfold asGet at h
    rw [List.find?_cons_of_pos (by simp [hy])] at h
    simp at h
    rw [← h, ← hy]
   subst hyy
   rw [List.filter_cons_of_neg (by simp)]
   have hf : r.filter (fun p => !(p.1 == n)) = r := by
    rw [List.filter_eq_self]
    intro q hq
    have h1 := hlt q hq
    have : q.1 ≠ n := fun e => by
     rw [e, show bytesBefore n n = false from WideAt.bytes_irrefl n] at h1
     cases h1
    simp [this]
   rw [hf]
   cases r with
   | nil => rfl
   | cons z r =>
    unfold asIns
    rw [if_pos (hlt z (List.mem_cons_self ..))]
  ·have h' : asGet n r = some a := by
    unfold asGet at h ⊢
    rwa [List.find?_cons_of_neg (by simp [hy])] at h
   have h1 := ih hr' h'
   rw [List.filter_cons_of_pos (by simp [hy])]
   have hyn : bytesBefore y.1 n = true := hlt _ (asGet_some h')
   have hny : ¬ bytesBefore n y.1 = true := fun e => by
    have := WideShapes.bytes_trans _ _ _ hyn e
    rw [show bytesBefore y.1 y.1 = false from WideAt.bytes_irrefl y.1] at this
    cases this
   unfold asIns
   rw [if_neg hny]
   exact congrArg _ h1
theorem DiskAt.file_set (h : DiskAt w base g m p room es) {n : Nm} {fe : FE} (hn : asGet n es = some fe) (v : Value) (f : FD) (hs : w.heap.size ≤ w'.heap.size) (hblk : Blk w' fe.blk 83 #[v, .int .i64 f.safe]) (hgot : Got w' base v f.b) (hsafe : f.safe ≤ f.b.length)
  (hrow : ∀ k, v.ownBlock = some k → fe.v.ownBlock = some k ∨ w.heap.size ≤ k) (hfr : ∀ k, k < w.heap.size → k ≠ fe.blk → fe.v.ownBlock ≠ some k → w'.heap[k]? = w.heap[k]?) : DiskAt w' base g m p room (asPut n ⟨fe.blk, v, f⟩ es) := by
 have hmem := asGet_some hn
 have hsec : sec FE.blk (asPut n ⟨fe.blk, v, f⟩ es) = sec FE.blk es := by
  rw [asPut_sec]
  refine asPut_same (h.map.rising (string_keyed Tryz.underlying9)) ?_
  rw [asGet_sec, hn]
  rfl
 have hne : ∀ q ∈ es, q.1 ≠ n → q.2.blk ≠ fe.blk ∧ ∀ k, q.2.v.ownBlock = some k → fe.v.ownBlock ≠ some k := fun q hq hqn => h.apart q (n, fe) hq hmem hqn
 refine ⟨(hfr g h.blk.lt (blk_ne h.blk (h.file _ hmem) (by decide)) (got_blk_ne (h.got _ hmem) h.blk (by decide))).trans h.blk, ?_, fun q hq => ?_, fun q hq => ?_, fun q hq => ?_, fun a b ha hb hab => ?_, ⟨h.low.1, h.low.2.1, fun q hq => ?_⟩, h.num⟩
 ·rw [hsec]
  exact h.map.keep (hfr m h.map.lt (fun e => map_ne (h.file _ hmem) h.map e.symm) (got_map_ne (h.got _ hmem) h.map))
 ·rcases asPut_mem' hq with rfl | ⟨hq, hqn⟩
  ·exact hblk
  ·exact (hfr q.2.blk (h.file q hq).lt (hne q hq hqn).1 (got_blk_ne (h.got _ hmem) (h.file q hq) (by decide))).trans (h.file q hq)
 ·rcases asPut_mem' hq with rfl | ⟨hq, hqn⟩
  ·exact hgot
  ·exact (h.got q hq).kept (fun j hj => hfr j ((h.got q hq).row.lt j hj) (fun e => got_blk_ne (h.got q hq) (h.file _ hmem) (by decide) (by rw [hj, e])) (fun e => (hne q hq hqn).2 j hj e)) hs
 ·rcases asPut_mem' hq with rfl | ⟨hq, hqn⟩
  ·exact hsafe
  ·exact h.safe q hq
 ·rcases asPut_mem' ha with rfl | ⟨ha, han⟩ <;> rcases asPut_mem' hb with rfl | ⟨hb, hbn⟩
  ·exact absurd rfl hab
  ·refine ⟨fun e => (hne b hb hbn).1 e.symm, fun k hk hkb => ?_⟩
   rcases hrow k hk with h1 | h1
   ·exact (hne b hb hbn).2 k hkb h1
   ·have := (h.got b hb).row.lt k hkb; omega
  ·refine ⟨(hne a ha han).1, fun k hk hkb => ?_⟩
   rcases hrow k hkb with h1 | h1
   ·exact (hne a ha han).2 k hk h1
   ·have := (h.got a ha).row.lt k hk; omega
  ·exact h.apart a b ha hb hab
 ·rcases asPut_mem' hq with rfl | ⟨hq, hqn⟩
  ·exact h.low.2.2 (n, fe) hmem
  ·exact h.low.2.2 q hq
theorem DiskAt.file_new (h : DiskAt w base g m p room es) {n : Nm} (fe : FE) (hold : ∀ q ∈ es, q.1 ≠ n → q.2.blk ≠ fe.blk ∧ ∀ k, q.2.v.ownBlock = some k → fe.v.ownBlock ≠ some k) (hs : w.heap.size ≤ w'.heap.size) (hblk : Blk w' fe.blk 83 #[fe.v, .int .i64 fe.f.safe]) (hgot : Got w' base fe.v fe.f.b) (hsafe : fe.f.safe ≤ fe.f.b.length)
  (hb : base ≤ fe.blk) (hmap : MapAt Tryz.prog 9 w' m (asPut n fe.blk (sec FE.blk es))) (hfr : ∀ k, k < w.heap.size → k ≠ m → w'.heap[k]? = w.heap[k]?) : DiskAt w' base g m p room (asPut n fe es) := by
 refine ⟨(hfr g h.blk.lt (fun e => map_ne h.blk h.map e)).trans h.blk, by rw [asPut_sec]; exact hmap, fun q hq => ?_, fun q hq => ?_, fun q hq => ?_, fun a b ha hb hab => ?_, ⟨h.low.1, h.low.2.1, fun q hq => ?_⟩, h.num⟩
 ·rcases asPut_mem' hq with rfl | ⟨hq, hqn⟩
  ·exact hblk
  ·exact (hfr q.2.blk (h.file q hq).lt (fun e => map_ne (h.file q hq) h.map e)).trans (h.file q hq)
 ·rcases asPut_mem' hq with rfl | ⟨hq, hqn⟩
  ·exact hgot
  ·exact (h.got q hq).kept (fun j hj => hfr j ((h.got q hq).row.lt j hj) (fun e => got_map_ne (h.got q hq) h.map (by rw [hj, e]))) hs
 ·rcases asPut_mem' hq with rfl | ⟨hq, hqn⟩
  ·exact hsafe
  ·exact h.safe q hq
 ·rcases asPut_mem' ha with rfl | ⟨ha, han⟩ <;> rcases asPut_mem' hb with rfl | ⟨hb, hbn⟩
  ·exact absurd rfl hab
  ·exact ⟨fun e => (hold b hb hbn).1 e.symm, fun k hk hkb => (hold b hb hbn).2 k hkb hk⟩
  ·exact ⟨(hold a ha han).1, (hold a ha han).2⟩
  ·exact h.apart a b ha hb hab
 ·rcases asPut_mem' hq with rfl | ⟨hq, hqn⟩
  ·exact hb
  ·exact h.low.2.2 q hq
theorem DiskAt.file_del (h : DiskAt w base g m p room es) {n : Nm} (hg : w.grownBy w' (some m)) (hmap : MapAt Tryz.prog 9 w' m (asDel n (sec FE.blk es))) : DiskAt w' base g m p room (asDel n es) := by
 have hfr : ∀ k, k < w.heap.size → k ≠ m → w'.heap[k]? = w.heap[k]? := fun k hk hn => hg.block k hk (fun e => hn (by injection e))
 have hm : ∀ q, q ∈ asDel n es → q ∈ es := fun q hq => (asDel_mem.1 hq).1
 exact ⟨(hfr g h.blk.lt (fun e => map_ne h.blk h.map e)).trans h.blk, by rw [asDel_sec]; exact hmap, fun q hq => (hfr q.2.blk (h.file q (hm q hq)).lt (fun e => map_ne (h.file q (hm q hq)) h.map e)).trans (h.file q (hm q hq)),
  fun q hq => (h.got q (hm q hq)).kept (fun j hj => hfr j ((h.got q (hm q hq)).row.lt j hj) (fun e => got_map_ne (h.got q (hm q hq)) h.map (by rw [hj, e]))) hg.size, fun q hq => h.safe q (hm q hq), fun a b ha hb hab => h.apart a b (hm a ha) (hm b hb) hab, ⟨h.low.1, h.low.2.1, fun q hq => h.low.2.2 q (hm q hq)⟩, h.num⟩
theorem foot_del {n : Nm} {k : Nat} (h : DFoot g m (asDel n es) k) : DFoot g m es k := by
 rcases h with h | h | ⟨q, hq, h⟩
 ·exact .inl h
 ·exact .inr (.inl h)
 ·exact .inr (.inr ⟨q, (asDel_mem.1 hq).1, h⟩)
theorem foot_put {n : Nm} {fe : FE} {k N : Nat} (h : DFoot g m (asPut n fe es) k) (hb : fe.blk = k → DFoot g m es k ∨ N ≤ k) (hv : fe.v.ownBlock = some k → DFoot g m es k ∨ N ≤ k) : DFoot g m es k ∨ N ≤ k := by
 rcases h with h | h | ⟨q, hq, h⟩
 ·exact .inl (.inl h)
 ·exact .inl (.inr (.inl h))
 ·rcases asPut_mem' hq with rfl | ⟨hq, _⟩
  ·rcases h with h | h
   ·exact hb h.symm
   ·exact hv h
  ·exact .inl (.inr (.inr ⟨q, hq, h⟩))
end
end Go.Proofs.YtgeofijddhflaaaGreatDoor
set_option linter.unusedVariables false
namespace Go.Proofs.YtgeofijddhflaaaGreatDoor
open Go.RowKit Go.Maps Go.Sort Oct
theorem sizes_sub : ∀ (es : List (Nm × FE)) (left : Lit → Bool), sizes (sec FE.f (toCome es left)) ≤ sizes (sec FE.f es)
 | [], _ => Int.le_refl _
 | q :: r, left => by
  have ih := sizes_sub r left
  unfold toCome at ih ⊢
  rw [List.filter_cons]
  split
  ·simp only [sec, List.map_cons, sizes] at ih ⊢
   omega
  ·simp only [sec, List.map_cons, sizes] at ih ⊢
   omega
theorem zero_ptr (w : World) : (zeroValue 81).run Tryz.prog w = .ok (.pointer none) w := by kernel_rfl
theorem blk6_at {w : World} {g : Nat} {t : TypeId} {a b c d e f : Value} (h : Blk w g t #[a, b, c, d, e, f]) : (w.cell? ⟨g, 0, none⟩ = some a ∧ w.cell? ⟨g, 1, none⟩ = some b ∧ w.cell? ⟨g, 2, none⟩ = some c ∧ w.cell? ⟨g, 3, none⟩ = some d ∧ w.cell? ⟨g, 4, none⟩ = some e ∧ w.cell? ⟨g, 5, none⟩ = some f) ∧
  w.frozen? ⟨g, 0, none⟩ = false ∧ w.frozen? ⟨g, 1, none⟩ = false ∧ w.frozen? ⟨g, 2, none⟩ = false ∧ w.frozen? ⟨g, 3, none⟩ = false :=
 ⟨⟨h.cell 0, h.cell 1, h.cell 2, h.cell 3, h.cell 4, h.cell 5⟩, h.frozen 0, h.frozen 1, h.frozen 2, h.frozen 3⟩
def DiskTo (w : World) (base g m : Nat) (es : List (Nm × FE)) (d : DkD) (w' : World) : Prop := ∃ es', DiskAt w' base g m d.pw d.room es' ∧ sec FE.f es' = d.fs ∧ Fr (DFoot g m es) w w' ∧ ∀ k, DFoot g m es' k → DFoot g m es k ∨ w.heap.size ≤ k
abbrev dkOf (p : PWD) (room : Int) (es : List (Nm × FE)) : DkD := ⟨p, room, sec FE.f es⟩
theorem DiskTo.mk' {w w' : World} {base g m : Nat} {p : PWD} {room : Int} {es : List (Nm × FE)} (h : DiskAt w' base g m p room es) (hf : Fr (DFoot g m es) w w') : DiskTo w base g m es (dkOf p room es) w' := ⟨es, h, rfl, hf, fun k hk => .inl hk⟩
theorem DiskAt.drewN_ {w : World} {base g m : Nat} {p : PWD} {room : Int} {es : List (Nm × FE)} (h : DiskAt w base g m p room es) (k : Nat) : DiskAt (w.drewN k) base g m p room es := h.keep (Nat.le_refl _) fun _ _ => rfl
theorem Fr.drewN_ {mine : Nat → Prop} {w w' : World} (h : Fr mine w w') (k : Nat) : Fr mine w (w'.drewN k) := ⟨h.os, h.tape, h.output, h.size, h.block⟩
set_option maxHeartbeats 1000000 in
theorem dnew_any (room : Int) (hr : -9223372036854775808 ≤ room ∧ room ≤ 9223372036854775807) (w : World) :
  Calls Tryz.prog 8 #[.int .i64 room] w fun e w' => e = .returned (.pointer (some ⟨w.heap.size + 1, 0, none⟩)) ∧ DiskAt w' w.heap.size (w.heap.size + 1) w.heap.size ⟨false, false, 0, 0⟩ (max room 0) [] ∧ Below w.heap.size w w' := by
 have hmm := @run_makeMap Tryz.prog
 have HR := Lib.hid hr
 have hfin : ∀ r : Int, 0 ≤ r → r ≤ 9223372036854775807 → DiskAt ((w.alloc (.map #[] 0)).alloc (.cells #[.bool false, .bool false, .int .i64 0, .int .i64 0, .int .i64 r, .map (some w.heap.size)] 61)) w.heap.size (w.heap.size + 1) w.heap.size ⟨false, false, 0, 0⟩ r [] := fun r h0 h1 => by
  have hs : (w.alloc (.map #[] 0)).heap.size = w.heap.size + 1 := by simp
  have hB := Blk.new (w.alloc (.map #[] 0)) 61 #[.bool false, .bool false, .int .i64 0, .int .i64 0, .int .i64 r, .map (some w.heap.size)]
  rw [hs] at hB
  exact ⟨hB, (MapAt.made Tryz.prog 9 w).keep (Below.heap_alloc _ _ _ (by rw [hs]; omega)), fun q hq => (by cases hq), fun q hq => (by cases hq), fun q hq => (by cases hq), fun a b ha => (by cases ha), ⟨by omega, by omega, fun q hq => (by cases hq)⟩, ⟨by decide, by decide⟩, ⟨by decide, by decide⟩, h0, h1⟩
 have HF := Lib.hid hfin
 have HB : ∀ r : Int, Hid (Below w.heap.size w ((w.alloc (.map #[] 0)).alloc (.cells #[.bool false, .bool false, .int .i64 0, .int .i64 0, .int .i64 r, .map (some w.heap.size)] 61))) := fun r => Lib.hid (((Below.refl _ w).alloc (Nat.le_refl _) _).alloc (by simp) _)
 clear hr hfin
 rcases Int.lt_or_le room 0 with h0 | h0
 ·have e : max room 0 = 0 := by omega
  rw [e]
  have HB0 := HB 0
  clear HB e
  go_enter Tryz.func8, Tryz.ntmps8
  go_wp2
  go_ret
  exact ⟨rfl, HF.out 0 (Int.le_refl _) (by omega), HB0.out⟩
 ·have e : max room 0 = room := by omega
  rw [e]
  have HB0 := HB room
  have h1 := HR.out.2
  clear HB e
  go_enter Tryz.func8, Tryz.ntmps8
  go_wp2
  go_ret
  exact ⟨rfl, HF.out room h0 h1, HB0.out⟩
set_option maxHeartbeats 1000000 in
theorem dcut_any {w : World} {base g m : Nat} {p : PWD} {room : Int} {es : List (Nm × FE)} (h : DiskAt w base g m p room es) :
  Calls Tryz.prog 31 #[.pointer (some ⟨g, 0, none⟩)] w fun e w' => e = .returned (.tuple #[.bool p.cut.1, .int .i64 p.cut.2.1]) ∧ DiskAt w' base g m p.cut.2.2 room es ∧ Fr (DFoot g m es) w w' ∧ w'.heap.size = w.heap.size := by
 obtain ⟨⟨c0, c1, c2, c3, c4, c5⟩, f0, f1, f2, f3⟩ := blk6_at h.blk
 have H := Lib.hid h
 obtain ⟨⟨ha, ha2⟩, hpt, hrm⟩ := h.num
 have HN := Lib.hid (And.intro hpt hrm)
 clear hpt hrm
 obtain ⟨off, armed, acts, part⟩ := p
 simp only at c0 c1 c2 c3 ha ha2
 clear h
 cases armed with
 | false =>
  go_enter Tryz.func31, Tryz.ntmps31
  go_wp2
  go_ret2
  exact ⟨rfl, H.out, Fr.refl _ _, rfl⟩
 | true =>
  by_cases hp : 0 < acts
  ·have hg1 := grown_setCell w g 2 (.int .i64 (acts - 1))
   have e : PWD.cut ⟨off, true, acts, part⟩ = (false, 0, ⟨off, true, acts - 1, part⟩) := by simp [PWD.cut, hp]
   have HD : Hid (DiskAt (w.setCell ⟨g, 2, none⟩ (.int .i64 (acts - 1))) base g m ⟨off, true, acts - 1, part⟩ room es) := Lib.hid (H.out.power hg1 (Blk.set_ H.out.blk 2 _) ⟨⟨by show _ ≤ acts - 1; omega, by show acts - 1 ≤ _; omega⟩, HN.out⟩)
   have HF : Hid (Fr (DFoot g m es) w (w.setCell ⟨g, 2, none⟩ (.int .i64 (acts - 1)))) := Lib.hid (Fr.of_grown hg1 (fun k e => by injection e with e; exact .inl e.symm))
   rw [e]
   clear hg1 e
   go_enter Tryz.func31, Tryz.ntmps31
   go_wp2
   go_ret2
   exact ⟨rfl, HD.out, HF.out, by simp⟩
  ·have hg1 := grown_then (grown_setCell w g 1 (.bool false)) (grown_setCell (w.setCell ⟨g, 1, none⟩ (.bool false)) g 0 (.bool true)) (.inl rfl)
   have e : PWD.cut ⟨off, true, acts, part⟩ = (true, part, ⟨true, false, acts, part⟩) := by simp [PWD.cut, hp]
   have HD : Hid (DiskAt ((w.setCell ⟨g, 1, none⟩ (.bool false)).setCell ⟨g, 0, none⟩ (.bool true)) base g m ⟨true, false, acts, part⟩ room es) := Lib.hid (H.out.power hg1 (Blk.set_ (Blk.set_ H.out.blk 1 _) 0 _) ⟨⟨ha, ha2⟩, HN.out⟩)
   have HF : Hid (Fr (DFoot g m es) w ((w.setCell ⟨g, 1, none⟩ (.bool false)).setCell ⟨g, 0, none⟩ (.bool true))) := Lib.hid (Fr.of_grown hg1 (fun k e => by injection e with e; exact .inl e.symm))
   rw [e]
   clear hg1 e
   go_enter Tryz.func31, Tryz.ntmps31
   go_wp2
   go_quiet (fail)
   go_wp2
   go_ret2
   exact ⟨rfl, HD.out.drewN_ _, HF.out.drewN_ _, by simp⟩
theorem dup_any {w : World} {base g m : Nat} {p : PWD} {room : Int} {es : List (Nm × FE)} (h : DiskAt w base g m p room es) :
  Calls Tryz.prog 45 #[.pointer (some ⟨g, 0, none⟩)] w fun e w' => e = .returned (.bool (!p.off)) ∧ w = w' := by
 obtain ⟨⟨c0, c1, c2, c3, c4, c5⟩, f0, f1, f2, f3⟩ := blk6_at h.blk
 clear h
 go_enter Tryz.func45, Tryz.ntmps45
 go_wp2
 go_ret
 exact ⟨rfl, rfl⟩
def nameB (n : Nm) : Bool := !n.isEmpty && decide (n.length ≤ 32)
theorem dname_any (s : ByteArray) (w : World) (hs : s.size ≤ 140737488351232) : Calls Tryz.prog 28 #[.string s] w fun e w' => e = .returned (.bool (nameB s.data.toList)) ∧ w = w' := by
 have hsz : s.data.toList.length = s.size := by simp
 by_cases h0 : s.data.toList = []
 ·have e : nameB s.data.toList = false := by simp [nameB, h0]
  rw [e]
  obtain ⟨⟨l⟩⟩ := s
  simp only at h0
  subst h0
  clear e hsz hs
  go_enter Tryz.func28, Tryz.ntmps28
  go_wp2
  go_ret
  exact ⟨rfl, rfl⟩
 ·have hne : s.toList.isEmpty = false := by
   rw [toList_eq]
   exact List.isEmpty_eq_false_iff.2 h0
  by_cases h1 : s.size ≤ 32
  ·have e : nameB s.data.toList = true := by simp [nameB]; exact ⟨by simpa using h0, h1⟩
   have h1I : (s.size : Int) ≤ 32 := by omega
   rw [e]
   clear e h0 hsz
   go_enter Tryz.func28, Tryz.ntmps28
   go_wp2
   go_ret
   exact ⟨rfl, rfl⟩
  ·have e : nameB s.data.toList = false := by simp [nameB]; intro _; show 32 < s.size; omega
   have h1I : ¬ (s.size : Int) ≤ 32 := by omega
   rw [e]
   clear e h0 hsz
   go_enter Tryz.func28, Tryz.ntmps28
   go_wp2
   go_ret
   exact ⟨rfl, rfl⟩
set_option maxHeartbeats 1000000 in
theorem dmod_any (n k : Int) (hn : -9223372036854775808 ≤ n ∧ n ≤ 9223372036854775807) (hk : 1 ≤ k ∧ k ≤ 4611686018427387904) (w : World) : Calls Tryz.prog 32 #[.int .i64 n, .int .i64 k] w fun e w' => e = .returned (.int .i64 (n % k)) ∧ w = w' := by
 obtain ⟨hk1, hk2⟩ := hk
 have h1 : -k < n.tmod k := by have := Int.lt_tmod_of_pos n (show 0 < k by omega); omega
 have h2 : n.tmod k < k := Int.tmod_lt_of_pos n (by omega)
 have h3 : (n.tmod k + k) % k = n % k := by
  rw [Int.add_emod_right]
  have h5 := Int.mul_tdiv_add_tmod n k
  have h6 : n.tmod k = n + (-(n.tdiv k)) * k := by rw [Int.neg_mul, Int.mul_comm]; omega
  rw [h6, Int.add_mul_emod_self_right]
 have H3 := Lib.hid h3
 have hk0 : ¬ k = 0 := by omega
 clear h3 hn
 go_enter Tryz.func32, Tryz.ntmps32
 go_wp2
 go_ret
 exact ⟨by rw [H3.out]; rfl, rfl⟩
theorem find_found {w : World} {base g m : Nat} {p : PWD} {room : Int} {es : List (Nm × FE)} (h : DiskAt w base g m p room es) (s : ByteArray) (hs : s.size ≤ 140737488351232) {fe : FE} (hf : asGet s.data.toList es = some fe) (ho : p.off = false) :
  Calls Tryz.prog 106 #[.pointer (some ⟨g, 0, none⟩), .string s] w fun e w' => e = .returned (.tuple #[.pointer (some ⟨fe.blk, 0, none⟩), .int .i64 0]) ∧ w = w' := by
 obtain ⟨⟨c0, c1, c2, c3, c4, c5⟩, f0, f1, f2, f3⟩ := blk6_at h.blk
 have hl := h.map.get Tryz.underlying9 Tryz.underlying59 (zero_ptr w) s (by unfold maxLen; omega)
 rw [asGet_sec, hf] at hl
 have hl' : (Instr.lookup 59 (.map (some m)) (.string s) false).run Tryz.prog w = .ok (.pointer (some ⟨fe.blk, 0, none⟩)) w := hl
 rw [ho] at c0
 clear h hl hf ho
 go_enter Tryz.func106, Tryz.ntmps106
 go_wp2
 go_ret2
 exact ⟨rfl, rfl⟩
theorem find_none {w : World} {base g m : Nat} {p : PWD} {room : Int} {es : List (Nm × FE)} (h : DiskAt w base g m p room es) (s : ByteArray) (hs : s.size ≤ 140737488351232) (hf : asGet s.data.toList es = none) (ho : p.off = false) :
  Calls Tryz.prog 106 #[.pointer (some ⟨g, 0, none⟩), .string s] w fun e w' => e = .returned (.tuple #[.pointer none, .int .i64 51]) ∧ w = w' := by
 obtain ⟨⟨c0, c1, c2, c3, c4, c5⟩, f0, f1, f2, f3⟩ := blk6_at h.blk
 have hl := h.map.get Tryz.underlying9 Tryz.underlying59 (zero_ptr w) s (by unfold maxLen; omega)
 rw [asGet_sec, hf] at hl
 have hl' : (Instr.lookup 59 (.map (some m)) (.string s) false).run Tryz.prog w = .ok (.pointer none) w := hl
 rw [ho] at c0
 clear h hl hf ho
 go_enter Tryz.func106, Tryz.ntmps106
 go_wp2
 go_ret2
 exact ⟨rfl, rfl⟩
theorem find_down {w : World} {base g m : Nat} {p : PWD} {room : Int} {es : List (Nm × FE)} (h : DiskAt w base g m p room es) (s : ByteArray) (hs : s.size ≤ 140737488351232) (ho : p.off = true) :
  Calls Tryz.prog 106 #[.pointer (some ⟨g, 0, none⟩), .string s] w fun e w' => e = .returned (.tuple #[.pointer none, .int .i64 50]) ∧ w = w' := by
 obtain ⟨⟨c0, c1, c2, c3, c4, c5⟩, f0, f1, f2, f3⟩ := blk6_at h.blk
 have hl := h.map.get Tryz.underlying9 Tryz.underlying59 (zero_ptr w) s (by unfold maxLen; omega)
 rw [ho] at c0
 clear h ho
 go_enter Tryz.func106, Tryz.ntmps106
 go_wp2
 go_ret2
 exact ⟨rfl, rfl⟩
set_option maxHeartbeats 1000000 in
set_option maxRecDepth 100000 in
theorem free_any {w : World} {base g m : Nat} {p : PWD} {room : Int} {es : List (Nm × FE)} (h : DiskAt w base g m p room es) (hsz : sizes (sec FE.f es) ≤ 4611686018427387904) :
  Calls Tryz.prog 29 #[.pointer (some ⟨g, 0, none⟩)] w fun e w' => e = .returned (.int .i64 (room - sizes (sec FE.f es))) ∧ Below w.heap.size w w' := by
 obtain ⟨⟨c0, c1, c2, c3, c4, c5⟩, f0, f1, f2, f3⟩ := blk6_at h.blk
 have H := Lib.hid h
 obtain ⟨_, _, hr0, hr1⟩ := h.num
 clear h
 go_enter Tryz.func29, Tryz.ntmps29
 go_wp2_with (refine wpList_range_ptr rfl (.tmp 13) 59 rfl Tryz.underlying9 Tryz.underlying59 H.out.map rfl ?_; intro w1 left hra hall hg1 hs1)
 have hst : toCome es left = es := by
  unfold toCome
  rw [List.filter_eq_self]
  exact fun q hq => hall (q.1, q.2.blk) (List.mem_map.2 ⟨q, hq, rfl⟩)
 have HST := Lib.hid hst
 have HRA := Lib.hid hra
 have HB1 := Lib.hid (below_of_grown hg1)
 have hsp := sizes_nonneg (sec FE.f es)
 clear hst hra hg1 hall hs1 c0 c1 c2 c3 c4 c5 f0 f1 f2 f3
 go_frame
 go_loopw [3, 5] (fun n f wr => ∃ (left : Lit → Bool) (cnt : Nat), n = .int .i64 (room - sizes (sec FE.f es) + sizes (sec FE.f (toCome es left))) ∧ Hid (RangeAt Tryz.prog 9 wr m w.heap.size (sec FE.blk es) left cnt) ∧ Hid (Below w.heap.size w wr)) (fun _ _ wr => wr.rangeLeft m w.heap.size)
 case atStart => exact ⟨left, _, by rw [HST.out]; go_num, HRA, HB1⟩
 case round =>
  obtain ⟨left, cnt, rfl, hR, hB⟩ := hrel
  clear HRA HB1 HST
  have hrn := sizes_nonneg (sec FE.f (toCome es left))
  have hrl : sizes (sec FE.f (toCome es left)) ≤ sizes (sec FE.f es) := sizes_sub es left
  have hri := H.out.rising
  go_wp2_with (refine wpList_next_ptr rfl (.tmp 14) rfl Tryz.underlying9 hR.out rfl (fun hdone => Hid.out ?_) (fun s fb w2 cnt2 hfb hleft hra2 hlt2 hg2 hs2 hen => Hid.out ?_))
  ·refine Lib.hid ?_
   have hz : toCome es left = [] := by
    unfold toCome
    rw [List.filter_eq_nil_iff]
    intro q _
    rw [hdone]; simp
   have e : room - sizes (sec FE.f es) + sizes (sec FE.f (toCome es left)) = room - sizes (sec FE.f es) := by rw [hz]; simp [sizes]
   rw [e]
   clear hz e hdone hR hrn hrl hri
   go_wp2
   go_ret
   exact ⟨rfl, hB.out⟩
  ·refine Lib.hid ?_
   rw [asGet_sec, Option.map_eq_some_iff] at hfb
   obtain ⟨fe, hfe, rfl⟩ := hfb
   have hmem := asGet_some hfe
   have hK : Blk w fe.blk 83 #[fe.v, .int .i64 fe.f.safe] := H.out.file _ hmem
   have hlt : fe.blk < w.heap.size := hK.lt
   have hK2 : Blk w2 fe.blk 83 #[fe.v, .int .i64 fe.f.safe] := (hg2.block fe.blk (by have := hB.out.size; omega) (fun e => by injection e with e; omega)).trans ((hB.out.block fe.blk hlt).trans hK)
   obtain ⟨A, c, hv, _, _, _⟩ := (H.out.got _ hmem).shape
   have c0 := hK2.cell 0
   have hv' : fe.v = .slice A fe.f.b.length c := hv
   simp only [hv'] at c0
   have c0' : w2.cell? ⟨fe.blk, 0, none⟩ = some (.slice A fe.f.b.length c) := c0
   have hstep : sizes (sec FE.f (toCome es left)) = (fe.f.b.length : Int) + sizes (sec FE.f (toCome es (fun z => left z && !z.sameKey (.string s.data.toList)))) := by
    have h1 := toCome_step hri hfe hleft
    have h2 := sizes_perm (h1.map fun q => (q.1, q.2.f))
    exact h2
   have HS := Lib.hid hstep
   have hrn2 := sizes_nonneg (sec FE.f (toCome es (fun z => left z && !z.sameKey (.string s.data.toList))))
   have HR2 := Lib.hid hra2
   have HB2 := Lib.hid (hB.out.grown hg2 hB.out.size (fun k hk => by injection hk with hk; omega))
   have hmeas : w2.rangeLeft m w.heap.size < wr.rangeLeft m w.heap.size := by rw [World.ranges.left_eq hra2, World.ranges.left_eq hR.out]; exact hlt2
   have hlen : (fe.f.b.length : Int) ≤ sizes (sec FE.f es) := by omega
   have hln2 : (fe.f.b.length : Int) ≤ sizes (sec FE.f (toCome es left)) := by omega
   have HM := Lib.hid hmeas
   clear hstep hra2 hg2 hfe hK hK2 c0 hv hv' hmem hlt2 hs2 hleft hri hmeas hR hB
   go_wp2
   go_roundw
   case rel => exact ⟨_, cnt2, by rw [HS.out]; go_num, HR2, HB2⟩
   case measure => exact HM.out
end Go.Proofs.YtgeofijddhflaaaGreatDoor
