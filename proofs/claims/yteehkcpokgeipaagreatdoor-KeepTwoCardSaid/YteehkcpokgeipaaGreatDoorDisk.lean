/- The program's disk in memory: its own block, its map's, its files'. No condition. -/
import Derived.Test.YteehkcpokgeipaaGreatDoorDiskP
import Derived.Test.YteehkcpokgeipaaGreatDoorSealL
set_option linter.unusedVariables false
namespace Go.Proofs.YteehkcpokgeipaaGreatDoor
open Go.RowKit Go.Maps Go.Sort Oct

/-- A file in memory. -/
structure FE where
  blk : Nat
  v : Value
  f : FD
/-- But for these blocks nothing has turned. -/
structure Fr (mine : Nat → Prop) (w w' : World) : Prop where
  os : w'.os = w.os
  tape : w'.tape = w.tape
  output : w'.output = w.output
  size : w.heap.size ≤ w'.heap.size
  block : ∀ k, k < w.heap.size → ¬ mine k → w'.heap[k]? = w.heap[k]?
section
variable {mine mine' : Nat → Prop} {w w1 w2 w' : World}
theorem Fr.refl (mine : Nat → Prop) (w : World) : Fr mine w w := ⟨rfl, rfl, rfl, Nat.le_refl _, fun _ _ _ => rfl⟩
theorem Fr.trans (h : Fr mine w w1) (k : Fr mine' w1 w2) (hm : ∀ j, mine' j → mine j ∨ w.heap.size ≤ j) : Fr mine w w2 :=
  ⟨k.os.trans h.os, k.tape.trans h.tape, k.output.trans h.output, Nat.le_trans h.size k.size, fun j hj hn => (k.block j (Nat.lt_of_lt_of_le hj h.size) (fun e => by rcases hm j e with h1 | h1; exact hn h1; omega)).trans (h.block j hj hn)⟩
theorem Fr.of_below (mine : Nat → Prop) (h : Below w.heap.size w w') : Fr mine w w' := ⟨h.os, h.tape, h.output, h.size, fun k hk _ => h.block k hk⟩
theorem Fr.of_grown {row : Option Nat} (h : w.grownBy w' row) (hm : ∀ k, row = some k → mine k) : Fr mine w w' :=
  ⟨h.os, h.tape, h.output, h.size, fun k hk hn => h.block k hk (fun e => hn (hm k e.symm))⟩
theorem Fr.mono (h : Fr mine w w') (hm : ∀ j, j < w.heap.size → mine j → mine' j) : Fr mine' w w' := ⟨h.os, h.tape, h.output, h.size, fun k hk hn => h.block k hk (fun e => hn (hm k hk e))⟩
theorem Fr.below (h : Fr mine w w') {B : Nat} (hB : B ≤ w.heap.size) (hm : ∀ j, mine j → B ≤ j) : Below B w w' :=
  ⟨h.os, h.tape, h.output, h.size, fun k hk => h.block k (by omega) (fun e => by have := hm k e; omega)⟩
end
/-- Which blocks are a disk's. -/
def DFoot (g m : Nat) (es : List (Nm × FE)) (k : Nat) : Prop := k = g ∨ k = m ∨ ∃ p ∈ es, k = p.2.blk ∨ p.2.v.ownBlock = some k
/-- A disk in memory. -/
structure DiskAt (w : World) (base g m : Nat) (p : PWD) (room : Int) (es : List (Nm × FE)) : Prop where
  blk : Blk w g 53 #[.bool p.off, .bool p.armed, .int .i64 p.acts, .int .i64 p.part, .int .i64 room, .map (some m)]
  map : MapAt Tryz.prog 9 w m (sec FE.blk es)
  file : ∀ q ∈ es, Blk w q.2.blk 109 #[q.2.v, .int .i64 q.2.f.safe]
  got : ∀ q ∈ es, Got w base q.2.v q.2.f.b
  safe : ∀ q ∈ es, q.2.f.safe ≤ q.2.f.b.length
  apart : ∀ a b, a ∈ es → b ∈ es → a.1 ≠ b.1 → a.2.blk ≠ b.2.blk ∧ ∀ k, a.2.v.ownBlock = some k → b.2.v.ownBlock ≠ some k
  low : base ≤ g ∧ base ≤ m ∧ ∀ q ∈ es, base ≤ q.2.blk
  num : (-9223372036854775808 ≤ p.acts ∧ p.acts ≤ 9223372036854775807) ∧ (-9223372036854775808 ≤ p.part ∧ p.part ≤ 9223372036854775807) ∧ 0 ≤ room ∧ room ≤ 9223372036854775807
section
variable {w w' : World} {base g m : Nat} {p : PWD} {room : Int} {es : List (Nm × FE)}
theorem DiskAt.rising (h : DiskAt w base g m p room es) : Rising es := by
  have h1 := h.map.rising (string_keyed Tryz.underlying9)
  unfold Rising at h1 ⊢
  rw [List.pairwise_map] at h1
  exact h1
theorem DiskAt.lt (h : DiskAt w base g m p room es) : ∀ k, DFoot g m es k → base ≤ k ∧ k < w.heap.size := by
  intro k hk
  rcases hk with rfl | rfl | ⟨q, hq, rfl | hk⟩
  · exact ⟨h.low.1, h.blk.lt⟩
  · exact ⟨h.low.2.1, h.map.lt⟩
  · exact ⟨h.low.2.2 q hq, (h.file q hq).lt⟩
  · exact ⟨(h.got q hq).row.base k hk, (h.got q hq).row.lt k hk⟩
theorem DiskAt.keep (h : DiskAt w base g m p room es) (hs : w.heap.size ≤ w'.heap.size) (hk : ∀ k, DFoot g m es k → w'.heap[k]? = w.heap[k]?) : DiskAt w' base g m p room es :=
  ⟨(hk g (.inl rfl)).trans h.blk, h.map.keep (hk m (.inr (.inl rfl))), fun q hq => (hk q.2.blk (.inr (.inr ⟨q, hq, .inl rfl⟩))).trans (h.file q hq),
    fun q hq => (h.got q hq).kept (fun j hj => hk j (.inr (.inr ⟨q, hq, .inr hj⟩))) hs, h.safe, h.apart, h.low, h.num⟩
theorem DiskAt.below (h : DiskAt w base g m p room es) (hb : Below w.heap.size w w') : DiskAt w' base g m p room es :=
  h.keep hb.size fun k hk => hb.block k (h.lt k hk).2
theorem blk_ne {T T' : TypeId} {a b : Nat} {cs cs' : Array Value} (ha : Blk w a T cs) (hb : Blk w b T' cs') (hT : T ≠ T') : a ≠ b := fun e => by
  subst e
  have h1 : w.heap[a]? = some (Obj.cells cs T (0, 0)) := ha
  have h2 : w.heap[a]? = some (Obj.cells cs' T' (0, 0)) := hb
  rw [h1] at h2
  injection h2 with h2
  injection h2 with _ h2 _
  exact hT h2
theorem map_ne {P : Program} {k : TypeId} {T : TypeId} {a b : Nat} {cs : Array Value} {l : List (Nm × Nat)} (ha : Blk w a T cs) (hb : MapAt P k w b l) : a ≠ b := fun e => by
  subst e
  obtain ⟨es', clock, h1, _⟩ := hb
  have h2 : w.heap[a]? = some (Obj.cells cs T (0, 0)) := ha
  rw [h1] at h2
  cases h2
/-- Bytes of a call's own lie in no block of another kind. -/
theorem got_blk_ne {base : Nat} {v : Value} {l : List UInt8} {T : TypeId} {a : Nat} {cs : Array Value} (h : Got w base v l) (hb : Blk w a T cs) (hT : T ≠ 5) : v.ownBlock ≠ some a := fun e => by
  rcases h.row with hv | ⟨g', n, cap, cur, hv, _, hblk, _⟩
  · rw [hv] at e; cases e
  · rw [hv] at e
    have e' : g' = a := by simpa [Value.ownBlock] using e
    subst e'
    exact blk_ne hb hblk hT rfl
theorem got_map_ne {P : Program} {k : TypeId} {base : Nat} {v : Value} {l : List UInt8} {a : Nat} {fs : List (Nm × Nat)} (h : Got w base v l) (hb : MapAt P k w a fs) : v.ownBlock ≠ some a := fun e => by
  rcases h.row with hv | ⟨g', n, cap, cur, hv, _, hblk, _⟩
  · rw [hv] at e; cases e
  · rw [hv] at e
    have e' : g' = a := by simpa [Value.ownBlock] using e
    subst e'
    exact map_ne hblk hb rfl
/-- The disk's own block is written. -/
theorem DiskAt.power (h : DiskAt w base g m p room es) {p' : PWD} (hg : w.grownBy w' (some g)) (hB : Blk w' g 53 #[.bool p'.off, .bool p'.armed, .int .i64 p'.acts, .int .i64 p'.part, .int .i64 room, .map (some m)])
    (hn' : (-9223372036854775808 ≤ p'.acts ∧ p'.acts ≤ 9223372036854775807) ∧ (-9223372036854775808 ≤ p'.part ∧ p'.part ≤ 9223372036854775807) ∧ 0 ≤ room ∧ room ≤ 9223372036854775807) : DiskAt w' base g m p' room es := by
  have hne : ∀ k, DFoot g m es k → k ≠ g → w'.heap[k]? = w.heap[k]? := fun k hk hn => hg.block k (h.lt k hk).2 (fun e => hn (by injection e))
  refine ⟨hB, h.map.keep (hne m (.inr (.inl rfl)) (fun e => map_ne h.blk h.map e.symm)), fun q hq => (hne q.2.blk (.inr (.inr ⟨q, hq, .inl rfl⟩)) (fun e => blk_ne h.blk (h.file q hq) (by decide) e.symm)).trans (h.file q hq),
    fun q hq => (h.got q hq).kept (fun j hj => hne j (.inr (.inr ⟨q, hq, .inr hj⟩)) (fun e => got_blk_ne (h.got q hq) h.blk (by decide) (by rw [hj, e]))) hg.size, h.safe, h.apart, h.low, hn'⟩
theorem asPut_mem' {α : Type} {n : Nm} {a : α} {l : List (Nm × α)} {q : Nm × α} (h : q ∈ asPut n a l) : q = (n, a) ∨ (q ∈ l ∧ q.1 ≠ n) := asPut_mem.1 h
theorem asPut_same {α : Type} {n : Nm} {a : α} {l : List (Nm × α)} (hr : Rising l) (h : asGet n l = some a) : asPut n a l = l := by
  induction l with
  | nil => cases h
  | cons y r ih =>
    have hr' : Rising r := (List.pairwise_cons.1 hr).2
    have hlt := (List.pairwise_cons.1 hr).1
    unfold asPut asDel
    by_cases hy : y.1 = n
    · have hyy : y = (n, a) := by
        unfold asGet at h
        rw [List.find?_cons_of_pos (by simp [hy])] at h
        simp at h
        rw [← h, ← hy]
      subst hyy
      rw [List.filter_cons_of_neg (by simp)]
      have hf : r.filter (fun p => !(p.1 == n)) = r := by
        rw [List.filter_eq_self]
        intro q hq
        have h1 := hlt q hq
        have : q.1 ≠ n := fun e => by
          rw [e, show bytesBefore n n = false from WideAt.bytes_irrefl n] at h1
          cases h1
        simp [this]
      rw [hf]
      cases r with
      | nil => rfl
      | cons z r =>
        unfold asIns
        rw [if_pos (hlt z (List.mem_cons_self ..))]
    · have h' : asGet n r = some a := by
        unfold asGet at h ⊢
        rwa [List.find?_cons_of_neg (by simp [hy])] at h
      have h1 := ih hr' h'
      rw [List.filter_cons_of_pos (by simp [hy])]
      have hyn : bytesBefore y.1 n = true := hlt _ (asGet_some h')
      have hny : ¬ bytesBefore n y.1 = true := fun e => by
        have := WideShapes.bytes_trans _ _ _ hyn e
        rw [show bytesBefore y.1 y.1 = false from WideAt.bytes_irrefl y.1] at this
        cases this
      unfold asIns
      rw [if_neg hny]
      exact congrArg _ h1
/-- A file is another one, in its own block. -/
theorem DiskAt.file_set (h : DiskAt w base g m p room es) {n : Nm} {fe : FE} (hn : asGet n es = some fe) (v : Value) (f : FD) (hs : w.heap.size ≤ w'.heap.size) (hblk : Blk w' fe.blk 109 #[v, .int .i64 f.safe]) (hgot : Got w' base v f.b) (hsafe : f.safe ≤ f.b.length)
    (hrow : ∀ k, v.ownBlock = some k → fe.v.ownBlock = some k ∨ w.heap.size ≤ k) (hfr : ∀ k, k < w.heap.size → k ≠ fe.blk → fe.v.ownBlock ≠ some k → w'.heap[k]? = w.heap[k]?) : DiskAt w' base g m p room (asPut n ⟨fe.blk, v, f⟩ es) := by
  have hmem := asGet_some hn
  have hsec : sec FE.blk (asPut n ⟨fe.blk, v, f⟩ es) = sec FE.blk es := by
    rw [asPut_sec]
    refine asPut_same (h.map.rising (string_keyed Tryz.underlying9)) ?_
    rw [asGet_sec, hn]
    rfl
  have hne : ∀ q ∈ es, q.1 ≠ n → q.2.blk ≠ fe.blk ∧ ∀ k, q.2.v.ownBlock = some k → fe.v.ownBlock ≠ some k := fun q hq hqn => h.apart q (n, fe) hq hmem hqn
  refine ⟨(hfr g h.blk.lt (blk_ne h.blk (h.file _ hmem) (by decide)) (got_blk_ne (h.got _ hmem) h.blk (by decide))).trans h.blk, ?_, fun q hq => ?_, fun q hq => ?_, fun q hq => ?_, fun a b ha hb hab => ?_, ⟨h.low.1, h.low.2.1, fun q hq => ?_⟩, h.num⟩
  · rw [hsec]
    exact h.map.keep (hfr m h.map.lt (fun e => map_ne (h.file _ hmem) h.map e.symm) (got_map_ne (h.got _ hmem) h.map))
  · rcases asPut_mem' hq with rfl | ⟨hq, hqn⟩
    · exact hblk
    · exact (hfr q.2.blk (h.file q hq).lt (hne q hq hqn).1 (got_blk_ne (h.got _ hmem) (h.file q hq) (by decide))).trans (h.file q hq)
  · rcases asPut_mem' hq with rfl | ⟨hq, hqn⟩
    · exact hgot
    · exact (h.got q hq).kept (fun j hj => hfr j ((h.got q hq).row.lt j hj) (fun e => got_blk_ne (h.got q hq) (h.file _ hmem) (by decide) (by rw [hj, e])) (fun e => (hne q hq hqn).2 j hj e)) hs
  · rcases asPut_mem' hq with rfl | ⟨hq, hqn⟩
    · exact hsafe
    · exact h.safe q hq
  · rcases asPut_mem' ha with rfl | ⟨ha, han⟩ <;> rcases asPut_mem' hb with rfl | ⟨hb, hbn⟩
    · exact absurd rfl hab
    · refine ⟨fun e => (hne b hb hbn).1 e.symm, fun k hk hkb => ?_⟩
      rcases hrow k hk with h1 | h1
      · exact (hne b hb hbn).2 k hkb h1
      · have := (h.got b hb).row.lt k hkb; omega
    · refine ⟨(hne a ha han).1, fun k hk hkb => ?_⟩
      rcases hrow k hkb with h1 | h1
      · exact (hne a ha han).2 k hk h1
      · have := (h.got a ha).row.lt k hk; omega
    · exact h.apart a b ha hb hab
  · rcases asPut_mem' hq with rfl | ⟨hq, hqn⟩
    · exact h.low.2.2 (n, fe) hmem
    · exact h.low.2.2 q hq
/-- A file is put into the map: a block that was none of the disk's. -/
theorem DiskAt.file_new (h : DiskAt w base g m p room es) {n : Nm} (fe : FE) (hold : ∀ q ∈ es, q.1 ≠ n → q.2.blk ≠ fe.blk ∧ ∀ k, q.2.v.ownBlock = some k → fe.v.ownBlock ≠ some k) (hs : w.heap.size ≤ w'.heap.size) (hblk : Blk w' fe.blk 109 #[fe.v, .int .i64 fe.f.safe]) (hgot : Got w' base fe.v fe.f.b) (hsafe : fe.f.safe ≤ fe.f.b.length)
    (hb : base ≤ fe.blk) (hmap : MapAt Tryz.prog 9 w' m (asPut n fe.blk (sec FE.blk es))) (hfr : ∀ k, k < w.heap.size → k ≠ m → w'.heap[k]? = w.heap[k]?) : DiskAt w' base g m p room (asPut n fe es) := by
  refine ⟨(hfr g h.blk.lt (fun e => map_ne h.blk h.map e)).trans h.blk, by rw [asPut_sec]; exact hmap, fun q hq => ?_, fun q hq => ?_, fun q hq => ?_, fun a b ha hb hab => ?_, ⟨h.low.1, h.low.2.1, fun q hq => ?_⟩, h.num⟩
  · rcases asPut_mem' hq with rfl | ⟨hq, hqn⟩
    · exact hblk
    · exact (hfr q.2.blk (h.file q hq).lt (fun e => map_ne (h.file q hq) h.map e)).trans (h.file q hq)
  · rcases asPut_mem' hq with rfl | ⟨hq, hqn⟩
    · exact hgot
    · exact (h.got q hq).kept (fun j hj => hfr j ((h.got q hq).row.lt j hj) (fun e => got_map_ne (h.got q hq) h.map (by rw [hj, e]))) hs
  · rcases asPut_mem' hq with rfl | ⟨hq, hqn⟩
    · exact hsafe
    · exact h.safe q hq
  · rcases asPut_mem' ha with rfl | ⟨ha, han⟩ <;> rcases asPut_mem' hb with rfl | ⟨hb, hbn⟩
    · exact absurd rfl hab
    · exact ⟨fun e => (hold b hb hbn).1 e.symm, fun k hk hkb => (hold b hb hbn).2 k hkb hk⟩
    · exact ⟨(hold a ha han).1, (hold a ha han).2⟩
    · exact h.apart a b ha hb hab
  · rcases asPut_mem' hq with rfl | ⟨hq, hqn⟩
    · exact hb
    · exact h.low.2.2 q hq
/-- A name is taken out of the map. -/
theorem DiskAt.file_del (h : DiskAt w base g m p room es) {n : Nm} (hg : w.grownBy w' (some m)) (hmap : MapAt Tryz.prog 9 w' m (asDel n (sec FE.blk es))) : DiskAt w' base g m p room (asDel n es) := by
  have hfr : ∀ k, k < w.heap.size → k ≠ m → w'.heap[k]? = w.heap[k]? := fun k hk hn => hg.block k hk (fun e => hn (by injection e))
  have hm : ∀ q, q ∈ asDel n es → q ∈ es := fun q hq => (asDel_mem.1 hq).1
  exact ⟨(hfr g h.blk.lt (fun e => map_ne h.blk h.map e)).trans h.blk, by rw [asDel_sec]; exact hmap, fun q hq => (hfr q.2.blk (h.file q (hm q hq)).lt (fun e => map_ne (h.file q (hm q hq)) h.map e)).trans (h.file q (hm q hq)),
    fun q hq => (h.got q (hm q hq)).kept (fun j hj => hfr j ((h.got q (hm q hq)).row.lt j hj) (fun e => got_map_ne (h.got q (hm q hq)) h.map (by rw [hj, e]))) hg.size, fun q hq => h.safe q (hm q hq), fun a b ha hb hab => h.apart a b (hm a ha) (hm b hb) hab, ⟨h.low.1, h.low.2.1, fun q hq => h.low.2.2 q (hm q hq)⟩, h.num⟩
theorem foot_del {n : Nm} {k : Nat} (h : DFoot g m (asDel n es) k) : DFoot g m es k := by
  rcases h with h | h | ⟨q, hq, h⟩
  · exact .inl h
  · exact .inr (.inl h)
  · exact .inr (.inr ⟨q, (asDel_mem.1 hq).1, h⟩)
theorem foot_put {n : Nm} {fe : FE} {k N : Nat} (h : DFoot g m (asPut n fe es) k) (hb : fe.blk = k → DFoot g m es k ∨ N ≤ k) (hv : fe.v.ownBlock = some k → DFoot g m es k ∨ N ≤ k) : DFoot g m es k ∨ N ≤ k := by
  rcases h with h | h | ⟨q, hq, h⟩
  · exact .inl (.inl h)
  · exact .inl (.inr (.inl h))
  · rcases asPut_mem' hq with rfl | ⟨hq, _⟩
    · rcases h with h | h
      · exact hb h.symm
      · exact hv h
    · exact .inl (.inr (.inr ⟨q, hq, h⟩))
end
end Go.Proofs.YteehkcpokgeipaaGreatDoor
