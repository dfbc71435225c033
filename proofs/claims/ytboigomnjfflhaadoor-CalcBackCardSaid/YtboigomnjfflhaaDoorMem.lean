/- Words for memory, over any program: a slice that reads as a list; a slice of the call's own; append laws on these. No condition. -/
import Derived.Below
import Derived.Laws.OwnMore
import Derived.Laws.CopyOwn
import Derived.Deep.AppendLies
import Derived.Deep.Draws
import Derived.Maps.AppendAt
import Derived.RegionTactic
import Derived.OwnWalk
import Derived.Laws.NewBlocks
import Derived.Laws.Slices
import Derived.Laws.MakeOwn
set_option linter.unusedVariables false
namespace Go.Proofs.YtboigomnjfflhaaDoor
open Go.RowKit

theorem ret_bool {a b : Bool} (h : a = b) : Ending.returned (.bool a) = .returned (.bool b) := by rw [h]
theorem ret_int {k : IntKind} {a b : Int} (h : a = b) : Ending.returned (.int k a) = .returned (.int k b) := by rw [h]

theorem ret2 {a a' b b' : Value} (h1 : a = a') (h2 : b = b') : Ending.returned (.tuple #[a, b]) = .returned (.tuple #[a', b']) := by rw [h1, h2]
theorem ret3 {a a' b b' c c' : Value} (h1 : a = a') (h2 : b = b') (h3 : c = c') : Ending.returned (.tuple #[a, b, c]) = .returned (.tuple #[a', b', c']) := by rw [h1, h2, h3]

theorem block_of_add (a : Addr) (n : Nat) : (a.add n).block = a.block := by unfold Addr.add; split <;> rfl
theorem add_of_add (a : Addr) (i j : Nat) : (a.add i).add j = a.add (i + j) := by
  unfold Addr.add
  by_cases hi : i = 0 <;> by_cases hj : j = 0 <;> simp [hi, hj, Nat.add_assoc]

theorem below_drewN {B : Nat} {a w : World} (h : Below B a w) (n : Nat) : Below B a (w.drewN n) := ⟨h.os, h.tape, h.output, h.size, h.block⟩
theorem below_of_grown {w w' : World} (h : w.grownBy w' none) : Below w.heap.size w w' := ⟨h.os, h.tape, h.output, h.size, fun k hk => h.block k hk (by simp)⟩
theorem grown_of_below {w w' : World} (h : Below w.heap.size w w') (row : Option Nat) : w.grownBy w' row := ⟨h.os, h.tape, h.output, h.size, fun i hi _ => h.block i hi⟩
/-- Two steps, the second of which writes the first one's row or what is new. -/
theorem grown_then {w w1 w2 : World} {r r1 : Option Nat} (h : w.grownBy w1 r) (k : w1.grownBy w2 r1) (hr : r1 = r ∨ ∃ g, r1 = some g ∧ w.heap.size ≤ g) : w.grownBy w2 r :=
  ⟨k.os.trans h.os, k.tape.trans h.tape, k.output.trans h.output, Nat.le_trans h.size k.size, fun i hi hne => by
    refine (k.block i (Nat.lt_of_lt_of_le hi h.size) ?_).trans (h.block i hi hne)
    rcases hr with rfl | ⟨g, rfl, hg⟩
    · exact hne
    · simp; omega⟩
theorem grown_alloc {a w : World} {row : Option Nat} (h : a.grownBy w row) (o : Obj) : a.grownBy (w.alloc o) row :=
  ⟨h.os, h.tape, h.output, Nat.le_trans h.size (by simp), fun i hi hne => (Below.heap_alloc w o i (Nat.lt_of_lt_of_le hi h.size)).trans (h.block i hi hne)⟩
theorem grown_drewN {a w : World} {row : Option Nat} (h : a.grownBy w row) (n : Nat) : a.grownBy (w.drewN n) row := ⟨h.os, h.tape, h.output, h.size, h.block⟩
theorem grown_of_drew {a w : World} {row : Option Nat} (h : a.drew.grownBy w row) : a.grownBy w row := ⟨h.os, h.tape, h.output, h.size, h.block⟩
theorem grown_of_drewN {a w : World} {row : Option Nat} {n : Nat} (h : (a.drewN n).grownBy w row) : a.grownBy w row := ⟨h.os, h.tape, h.output, h.size, h.block⟩

/-! ### A slice that reads as a list of one-cell values -/
def Rd (w : World) (B : Nat) (A : Option Addr) (xs : List Value) : Prop :=
  0 < xs.length → ∃ ad, A = some ad ∧ ad.block < B ∧ ∀ j u, xs[j]? = some u → w.cell? (ad.add j) = some u

section
variable {w w' : World} {B B' : Nat} {A : Option Addr} {xs : List Value}
theorem Rd.none_ : Rd w B A [] := fun h => absurd h (by simp)
theorem Rd.at_ {k : Nat} (h : Rd w B A xs) (hk : k < xs.length) : ∃ ad, A = some ad ∧ ad.block < B ∧ w.cell? (ad.add k) = some xs[k] := by
  obtain ⟨ad, e, hb, hc⟩ := h (by omega)
  exact ⟨ad, e, hb, hc k _ (List.getElem?_eq_getElem hk)⟩
theorem Rd.keep (h : Rd w B A xs) (hk : ∀ p : Addr, p.block < B → w'.cell? p = w.cell? p) : Rd w' B A xs := fun hn => by
  obtain ⟨ad, e, hb, hc⟩ := h hn
  exact ⟨ad, e, hb, fun j u hu => (hk _ (by rw [block_of_add]; exact hb)).trans (hc j u hu)⟩
theorem Rd.more (h : Rd w B A xs) (hB : B ≤ B') : Rd w B' A xs := fun hn => by
  obtain ⟨ad, e, hb, hc⟩ := h hn
  exact ⟨ad, e, by omega, hc⟩
theorem Rd.below (h : Rd w B A xs) (hb : Below B w w') : Rd w' B A xs := h.keep fun _ hp => hb.cell hp
theorem Rd.drewN (h : Rd w B A xs) (k : Nat) : Rd (w.drewN k) B A xs := h
theorem Rd.alloc (h : Rd w B A xs) (hB : B ≤ w.heap.size) (o : Obj) : Rd (w.alloc o) B A xs := h.keep fun p hp => World.cell?_alloc_lt w o p (by omega)
theorem Rd.grown (h : Rd w B A xs) {row : Option Nat} (hg : w.grownBy w' row) (hB : B ≤ w.heap.size) (hr : ∀ g, row = some g → B ≤ g) : Rd w' B A xs :=
  h.keep fun p hp => World.cell?_of_block (hg.block p.block (by omega) (fun e => by have := hr _ e.symm; omega))
/-- 's[k:]'. -/
theorem Rd.cut (h : Rd w B A xs) {k cap : Nat} (hk : k ≤ xs.length) (hc : xs.length ≤ cap) : Rd w B (if cap = k then A else A.map (·.add k)) (xs.drop k) := fun hn => by
  rw [List.length_drop] at hn
  obtain ⟨ad, rfl, hb, hcell⟩ := h (by omega)
  rw [if_neg (by omega)]
  refine ⟨ad.add k, rfl, by rw [block_of_add]; exact hb, fun j u hu => ?_⟩
  rw [add_of_add]
  exact hcell _ u (by rw [← hu, List.getElem?_drop])
/-- 's[:k]'. -/
theorem Rd.take (h : Rd w B A xs) (k : Nat) : Rd w B A (xs.take k) := fun hn => by
  obtain ⟨ad, rfl, hb, hcell⟩ := h (by rw [List.length_take] at hn; omega)
  refine ⟨ad, rfl, hb, fun j u hu => hcell j u ?_⟩
  rw [List.getElem?_take] at hu
  split at hu
  · exact hu
  · cases hu
end

theorem rd_at {w : World} {B : Nat} {A : Option Addr} {α : Type} {f : α → Value} {l : List α} {k : Nat} (h : Rd w B A (l.map f)) (hk : k < l.length) : ∃ ad, A = some ad ∧ ad.block < B ∧ w.cell? (ad.add k) = some (f l[k]) := by
  obtain ⟨ad, h1, h2, h3⟩ := h.at_ (k := k) (by rw [List.length_map]; exact hk)
  rw [List.getElem_map] at h3
  exact ⟨ad, h1, h2, h3⟩

/-- The address of 's[lo:..]', kept behind a name. -/
def cutA (A : Option Addr) (lo cap : Nat) : Option Addr := if cap = lo then A else A.map (·.add lo)
theorem Rd.cutA {w : World} {B : Nat} {A : Option Addr} {xs : List Value} (h : Rd w B A xs) {k cap : Nat} (hk : k ≤ xs.length) (hc : xs.length ≤ cap) : Rd w B (cutA A k cap) (xs.drop k) := h.cut hk hc
theorem sizeOf_one {P : Program} {e : TypeId} {i : TypeInfo} (hi : P.info? e = some i) (hz : i.size = 1) (w : World) : (sizeOf e).run P w = .ok 1 w := by
  simp [sizeOf, typeInfo, hi, hz]
section
variable {P : Program} {T e : TypeId} {z : Value} {bytes : Nat} (ht : P.underlying T = some (.slice e)) (hinfo : (P.info? e).map (fun i => (i.zero, i.size, i.bytes)) = some (some z, 1, bytes))
include ht hinfo
/-- 's[lo:hi]' within the capacity. -/
theorem run_cut (A : Option Addr) (len cap lo hi : Nat) (h1 : lo ≤ hi) (h2 : hi ≤ cap) (X Y : Int) (hX : X = (lo : Int)) (hY : Y = (hi : Int)) (w : World) :
    (Instr.slice T (.slice A len cap) (some (.int .i64 X)) (some (.int .i64 Y)) none).run P w = .ok (.slice (cutA A lo cap) (hi - lo) (cap - lo)) w := by
  obtain ⟨i, hi', hz, hsize, hby⟩ := info_parts hinfo
  subst hX; subst hY
  rw [run_slice_lh w T A len cap (by rw [ht]; simp [Program.elem, ht]) .i64 .i64 lo hi (by omega) (by omega) (by omega)]
  have he : P.elem T = e := by simp [Program.elem, ht]
  rw [he, sizeOf_one hi' hsize]
  simp [sliced, Go.Proofs.YtboigomnjfflhaaDoor.cutA, Result.andThen]
/-- 's[:cap(s)]'. -/
theorem run_cut_cap (A : Option Addr) (len cap : Nat) (X : Int) (hX : X = (cap : Int)) (w : World) :
    (Instr.slice T (.slice A len cap) none (some (.int .i64 X)) none).run P w = .ok (.slice A cap cap) w := by
  obtain ⟨i, hi', hz, hsize, hby⟩ := info_parts hinfo
  subst hX
  rw [run_slice_h w T A len cap (by rw [ht]; simp [Program.elem, ht]) .i64 cap (by omega) (by omega)]
  have he : P.elem T = e := by simp [Program.elem, ht]
  rw [he, sizeOf_one hi' hsize]
  have hm : A.map (·.add 0) = A := by cases A <;> simp [Addr.add]
  simp [sliced, Result.andThen, hm]
/-- 's[lo:]'. -/
theorem run_cut_from (A : Option Addr) (len cap lo : Nat) (h1 : lo ≤ len) (X : Int) (hX : X = (lo : Int)) (w : World) :
    (Instr.slice T (.slice A len cap) (some (.int .i64 X)) none none).run P w = .ok (.slice (cutA A lo cap) (len - lo) (cap - lo)) w := by
  obtain ⟨i, hi', hz, hsize, hby⟩ := info_parts hinfo
  subst hX
  rw [run_slice_l w T A len cap (by rw [ht]; simp [Program.elem, ht]) .i64 lo (by omega) (by omega)]
  have he : P.elem T = e := by simp [Program.elem, ht]
  rw [he, sizeOf_one hi' hsize]
  simp [sliced, Go.Proofs.YtboigomnjfflhaaDoor.cutA, Result.andThen]
end

/-! ### A slice of the call's own -/
def Own (w : World) (base : Nat) (e : TypeId) (v : Value) (xs : List Value) : Prop := w.ownsRow base e 1 v xs.length xs
/-- Is the block of this value new behind 'size'? -/
def Fresh (v : Value) (r : Option Nat) (n : Nat) : Prop := v.ownBlock = r ∨ ∃ g, v.ownBlock = some g ∧ n ≤ g
theorem fresh_then {v v1 : Value} {r : Option Nat} {n m : Nat} (h : Fresh v r n) (k : Fresh v1 v.ownBlock m) (hm : n ≤ m) : Fresh v1 r n := by
  rcases k with k | ⟨g, k, hg⟩
  · unfold Fresh; rw [k]; exact h
  · exact .inr ⟨g, k, by omega⟩

section
variable {w w' : World} {base : Nat} {e : TypeId} {v : Value} {xs : List Value}
theorem Own.nil (w : World) (base : Nat) (e : TypeId) : Own w base e (.slice none 0 0) [] := World.ownsRow_nil w base e 1
theorem Own.lt (h : Own w base e v xs) : ∀ k, v.ownBlock = some k → base ≤ k ∧ k < w.heap.size := World.ownsRow.lt h
theorem Own.kept {row : Option Nat} (h : Own w base e v xs) (hg : w.grownBy w' row) (hne : v.ownBlock = none ∨ v.ownBlock ≠ row) : Own w' base e v xs := World.ownsRow.kept h hg hne
theorem Own.below (h : Own w base e v xs) {B : Nat} (hb : Below B w w') (hB : w.heap.size ≤ B) : Own w' base e v xs :=
  Own.kept h (row := none) (grown_of_below (hb.mono hB) none) (by cases v.ownBlock <;> simp)
theorem Own.far {g : Nat} (h : Own w base e v xs) (hg : w.grownBy w' (some g)) (hlt : g < base) : Own w' base e v xs := by
  refine Own.kept h hg (.inr fun hv => ?_)
  have := (h.lt g hv).1
  omega
theorem Own.alloc (h : Own w base e v xs) (o : Obj) : Own (w.alloc o) base e v xs := World.ownsRow.alloc h o
theorem Own.drewN (h : Own w base e v xs) (n : Nat) : Own (w.drewN n) base e v xs := h
theorem Own.mono {base' : Nat} (h : Own w base e v xs) (hb : base' ≤ base) : Own w base' e v xs := by
  obtain ⟨h1, h2⟩ := h
  refine ⟨h1, ?_⟩
  rcases h2 with h2 | ⟨g, cap, cur, hv, hg, r⟩
  · exact .inl h2
  · exact .inr ⟨g, cap, cur, hv, by omega, r⟩
/-- Its base is as high as its block. -/
theorem Own.rebase {base' : Nat} (h : Own w base e v xs) (hb : ∀ k, v.ownBlock = some k → base' ≤ k) : Own w base' e v xs := by
  obtain ⟨h1, h2⟩ := h
  refine ⟨h1, ?_⟩
  rcases h2 with h2 | ⟨g, cap, cur, hv, hg, r⟩
  · exact .inl h2
  · exact .inr ⟨g, cap, cur, hv, hb g (by rw [hv]; rfl), r⟩
theorem Own.shape (h : Own w base e v xs) : ∃ A c, v = .slice A xs.length c ∧ xs.length ≤ c ∧ c ≤ maxLen ∧ Rd w w.heap.size A xs := by
  obtain ⟨h1, h2⟩ := id h
  rcases h2 with ⟨rfl, h0⟩ | ⟨g, cap, cur, rfl, hb, hg, hn, hc, hs, ht⟩
  · have hx : xs = [] := List.eq_nil_of_length_eq_zero h0
    subst hx
    exact ⟨none, 0, rfl, Nat.le_refl _, Nat.zero_le _, Rd.none_⟩
  · refine ⟨_, cap, rfl, hn, hc, fun _ => ⟨_, rfl, (Array.getElem?_eq_some_iff.1 hg).1, World.ownsRow.cells h rfl⟩⟩
/-- What is known of it whole: its block. -/
theorem Own.whole (h : Own w base e v xs) : (v = .slice none 0 0 ∧ xs = []) ∨ ∃ g cap cur, v = .slice (some ⟨g, 0, none⟩) xs.length cap ∧ base ≤ g ∧ g < w.heap.size ∧ w.heap[g]? = some (.cells cur e (0, 0)) ∧
    xs.length ≤ cap ∧ cap ≤ maxLen ∧ cur.size = cap ∧ cur.toList.take xs.length = xs := by
  obtain ⟨h1, h2⟩ := id h
  rcases h2 with ⟨rfl, h0⟩ | ⟨g, cap, cur, rfl, hb, hg, hn, hc, hs, ht⟩
  · exact .inl ⟨rfl, List.eq_nil_of_length_eq_zero h0⟩
  · exact .inr ⟨g, cap, cur, rfl, hb, (Array.getElem?_eq_some_iff.1 hg).1, hg, hn, hc, by omega, by simpa using ht⟩
end

/-- A block that is known whole. -/
def Blk (w : World) (g : Nat) (t : TypeId) (cs : Array Value) : Prop := w.heap[g]? = some (.cells cs t (0, 0))
section
variable {w w' : World} {g : Nat} {t : TypeId} {cs : Array Value}
theorem Blk.lt (h : Blk w g t cs) : g < w.heap.size := (Array.getElem?_eq_some_iff.1 h).1
theorem Blk.cell (h : Blk w g t cs) (i : Nat) : w.cell? ⟨g, i, none⟩ = cs[i]? := cell_of_row w g i cs t (0, 0) h
theorem Blk.frozen (h : Blk w g t cs) (i : Nat) : w.frozen? ⟨g, i, none⟩ = false := by
  unfold Blk at h
  simp [World.frozen?, h]
theorem Blk.new (w : World) (t : TypeId) (cs : Array Value) : Blk (w.alloc (.cells cs t)) w.heap.size t cs := heap_alloc_new w _
theorem Blk.drewN (h : Blk w g t cs) (n : Nat) : Blk (w.drewN n) g t cs := h
theorem Blk.alloc (h : Blk w g t cs) (o : Obj) : Blk (w.alloc o) g t cs := (Below.heap_alloc w o g h.lt).trans h
theorem Blk.set_ (h : Blk w g t cs) (i : Nat) (u : Value) : Blk (w.setCell ⟨g, i, none⟩ u) g t (cs.setIfInBounds i u) := by
  unfold Blk at h ⊢
  simp [World.setCell, Array.getElem?_modify, h]
theorem Blk.far (h : Blk w g t cs) {p : Addr} (hp : g ≠ p.block) (u : Value) : Blk (w.setCell p u) g t cs := (Below.heap_setCell w p u g hp).trans h
theorem Blk.below {B : Nat} (h : Blk w g t cs) (hb : Below B w w') (hg : g < B) : Blk w' g t cs := (hb.block g hg).trans h
theorem Blk.grown {row : Option Nat} (h : Blk w g t cs) (hb : w.grownBy w' row) (hg : some g ≠ row) : Blk w' g t cs := (hb.block g h.lt hg).trans h
end
theorem grown_setCell (w : World) (g i : Nat) (u : Value) : w.grownBy (w.setCell ⟨g, i, none⟩ u) (some g) :=
  ⟨rfl, rfl, rfl, by simp [World.setCell], fun k hk hne => Below.heap_setCell _ _ _ _ (by rintro rfl; exact hne rfl)⟩


/-- 'copy(dst, src)' over the head of a block that is known whole, src whatever reads. -/
theorem wpList_copy_head {P : Program} {w : World} {ops : Array Oper} {rest : List Oper} {o : Oper} {a : Act} {Q : Exit → Act → World → Prop} (hgd : o.guard = none) (d s : Operand) (dT sT : TypeId)
    (ho : o.op = .call { callee := .builtin .copy, args := #[d, s], argTypes := #[dT, sT] }) (e : TypeId) (z : Value) (bytes : Nat) (hu : P.underlying dT = some (.slice e)) (hinfo : (P.info? e).map (fun i => (i.zero, i.size, i.bytes)) = some (some z, 1, bytes))
    (g dLen dCap : Nat) (A : Option Addr) (n c : Nat) (hd : a.eval d = .slice (some ⟨g, 0, none⟩) dLen dCap) (hs : a.eval s = .slice A n c)
    (cur : List Value) (t : TypeId) (hb : Blk w g t cur.toArray) (B : Nat) (cs : List Value) (hn : n = cs.length) (hr : Rd w B A cs) (hle : n ≤ dLen) (hfit : dLen ≤ cur.length) (h1 : ∀ v ∈ cs, v.oneCell' = true)
    (h : ∀ w', Blk w' g t (cs ++ cur.drop n).toArray → w.grownBy w' (some g) → wpList P ops Q rest (a.put o.dst (goInt n)) w') :
    wpList P ops Q (o :: rest) a w := by
  obtain ⟨i, hi, hz, hsize, hby⟩ := info_parts hinfo
  have hsz : (P.info? e).map (·.size) = some 1 := by rw [hi]; simp [hsize]
  subst hn
  have hmin : cs.length = Nat.min cs.length dLen := (Nat.min_eq_left hle).symm
  by_cases h0 : cs.length = 0
  · refine wpList_copy_nothing hgd d s dT sT ho e hu hsz _ _ _ _ _ _ hd hs (by rw [← hmin]; exact h0) ?_
    have := h w (by rw [List.eq_nil_of_length_eq_zero h0]; simpa using hb) (World.grownBy.refl w _)
    rw [h0] at this
    exact this
  · obtain ⟨ad, rfl, _, hsrc⟩ := hr (by omega)
    refine wpList_copy_own hgd d s dT sT ho e hu hsz g 0 dLen dCap ad _ _ hd hs cur.toArray t hb cs hmin hsrc (by simp; omega) h1 ?_
    refine h _ ?_ ⟨rfl, rfl, rfl, by simp [World.setRow], fun k hk hne => setRow_other w g k _ (fun e => hne (by rw [e]))⟩
    have := setRow_heap w g cur.toArray (cs ++ cur.drop cs.length).toArray t (0, 0) hb
    unfold Blk
    simpa using this
/-- 'make([]T, n, c)', n and c variables, T of one cell. -/
theorem run_make_one {P : Program} {T e : TypeId} {z : Value} {bytes : Nat} (ht : P.underlying T = some (.slice e)) (hinfo : (P.info? e).map (fun i => (i.zero, i.size, i.bytes)) = some (some z, 1, bytes))
    (n c : Nat) (X Y : Int) (hX : X = (n : Int)) (hY : Y = (c : Int)) (hnc : n ≤ c) (hbytes : bytes * c ≤ 281474976710656) (h63 : c ≤ 9223372036854775807) (w : World) :
    (Instr.makeSlice T (.int .i64 X) (.int .i64 Y)).run P w = .ok (.slice (some ⟨w.heap.size, 0, none⟩) n c) (w.alloc (.cells (madeCells z.cells c) e)) := by
  obtain ⟨i, hi, hz, hsize, hby⟩ := info_parts hinfo
  subst hX; subst hY
  have hb : (i.bytes : Int) * (c : Int) ≤ 281474976710656 := by
    have h : ((i.bytes * c : Nat) : Int) ≤ 281474976710656 := by rw [hby]; omega
    rwa [Int.natCast_mul] at h
  have hr := run_make (P := P) w T e i z ht hi hz .i64 .i64 n c (by omega) (by omega) hb (by omega)
  simp only [Int.toNat_natCast, hsize, Nat.mul_one] at hr
  exact hr

/-! ### append -/
section
variable {P : Program} {w : World}

theorem run_append_of_nil (base : Nat) (t ty e : TypeId) (i : TypeInfo) (ht : P.underlying t = some (.slice e)) (hi : P.info? e = some i)
    (v : Value) (xs : List Value) (hown : Own w base e v xs) (c : Nat) : (Builtin.append_ #[t, t] ty #[v, .slice none 0 c]).run P w = .ok v w := by
  rcases hown.2 with ⟨rfl, hn⟩ | ⟨g, cap, cur, rfl, _, _, hnc, _⟩
  · simp [Builtin.append_, run_underlying ht, sizeOf, typeInfo, hi, Builtin.lenOf, Builtin.firstCells]
  · simp [Builtin.append_, run_underlying ht, sizeOf, typeInfo, hi, Builtin.lenOf, Builtin.firstCells, hnc, storeCells]

theorem run_append_any (base : Nat) (t ty e : TypeId) (z : Value) (bytes : Nat) (ht : P.underlying t = some (.slice e)) (hinfo : (P.info? e).map (fun i => (i.zero, i.size, i.bytes)) = some (some z, 1, bytes)) (hzs : z.cells.size = 1)
    (v : Value) (xs : List Value) (hown : Own w base e v xs)
    (B : Nat) (A : Option Addr) (m c : Nat) (news : List Value) (hm : m = news.length) (hr : Rd w B A news) (h1 : ∀ u ∈ news, u.oneCell' = true)
    (h63 : xs.length + m ≤ maxLen) (hbytes : (xs.length + m) * bytes ≤ 140737488355328) (hbase : base ≤ w.heap.size) :
    ∃ v' w', (Builtin.append_ #[t, t] ty #[v, .slice A m c]).run P w = .ok v' w' ∧ Own w' base e v' (xs ++ news) ∧ w.grownBy w' v.ownBlock ∧ Fresh v' v.ownBlock w.heap.size := by
  obtain ⟨i, hi, hz, hsize, hby⟩ := info_parts hinfo
  subst hm
  rcases A with _ | ad
  · have hm : news = [] := by
      rcases Nat.eq_zero_or_pos news.length with h0 | h0
      · exact List.eq_nil_of_length_eq_zero h0
      · obtain ⟨ad, h, _⟩ := hr h0
        cases h
    subst hm
    exact ⟨v, w, run_append_of_nil base t ty e i ht hi v xs hown c, by simpa using hown, World.grownBy.refl w _, .inl rfl⟩
  · have hcells : ∀ j u, news[j]? = some u → w.cell? (ad.add j) = some u := by
      intro j u hu
      rcases Nat.eq_zero_or_pos news.length with h0 | h0
      · have hn : news = [] := List.eq_nil_of_length_eq_zero h0
        subst hn
        simp at hu
      · obtain ⟨ad', h, _, hc⟩ := hr h0
        injection h with h
        subst h
        exact hc j u hu
    obtain ⟨v', w', hrun, h2, h3, _, h5⟩ := run_append_own_at (P := P) w base t ty e i z 1 bytes ht hi hz hsize hby hzs (by omega) v xs.length xs hown ad news.length c news (by simp) hcells h1 h63 hbytes hbase
    refine ⟨v', w', hrun, ?_, h3, ?_⟩
    · unfold Own; rw [List.length_append]; exact h2
    · rcases h5 with h5 | h5
      · exact .inl h5
      · exact .inr ⟨_, h5, Nat.le_refl _⟩

theorem wp_append_any {o : Oper} {a : Act} {K : Act → World → Prop} {Q : Exit → Act → World → Prop} (s x : Operand) (t : TypeId)
    (ho : o.op = .call { callee := .builtin .append, args := #[s, x], argTypes := #[t, t] })
    (base : Nat) (e : TypeId) (z : Value) (bytes : Nat) (ht : P.underlying t = some (.slice e)) (hinfo : (P.info? e).map (fun i => (i.zero, i.size, i.bytes)) = some (some z, 1, bytes)) (hzs : z.cells.size = 1)
    (v : Value) (xs : List Value) (hs : a.eval s = v) (hown : Own w base e v xs)
    (B : Nat) (A : Option Addr) (m c : Nat) (news : List Value) (hx : a.eval x = .slice A m c) (hm : m = news.length) (hr : Rd w B A news) (h1 : ∀ u ∈ news, u.oneCell' = true)
    (h63 : xs.length + m ≤ maxLen) (hbytes : (xs.length + m) * bytes ≤ 140737488355328) (hbase : base ≤ w.heap.size)
    (h : ∀ v' w', Own w' base e v' (xs ++ news) → w.grownBy w' v.ownBlock → Fresh v' v.ownBlock w.heap.size → K (a.put o.dst v') w') : o.wp P a w K Q := by
  obtain ⟨v', w', hrun, h2, h3, h4⟩ := run_append_any (P := P) base t o.type e z bytes ht hinfo hzs v xs hown B A m c news hm hr h1 h63 hbytes hbase
  unfold Oper.wp execOp
  simp only [ho, resolve, invoke, builtin, Sem.run_bind, Sem.run_pure, Result.andThen_ok, List.map_toArray, List.map_cons, List.map_nil, hs, hx, hrun]
  exact h v' w' h2 h3 h4

/-- 'v = append(v, xs...)'. -/
theorem wpList_append_any {ops : Array Oper} {rest : List Oper} {o : Oper} {a : Act} {Q : Exit → Act → World → Prop} (hgd : o.guard = none) (s x : Operand) (t : TypeId)
    (ho : o.op = .call { callee := .builtin .append, args := #[s, x], argTypes := #[t, t] })
    (base : Nat) (e : TypeId) (z : Value) (bytes : Nat) (ht : P.underlying t = some (.slice e)) (hinfo : (P.info? e).map (fun i => (i.zero, i.size, i.bytes)) = some (some z, 1, bytes)) (hzs : z.cells.size = 1)
    (v : Value) (xs : List Value) (hs : a.eval s = v) (hown : Own w base e v xs)
    (B : Nat) (A : Option Addr) (m c : Nat) (news : List Value) (hx : a.eval x = .slice A m c) (hm : m = news.length) (hr : Rd w B A news) (h1 : ∀ u ∈ news, u.oneCell' = true)
    (h63 : xs.length + m ≤ maxLen) (hbytes : (xs.length + m) * bytes ≤ 140737488355328) (hbase : base ≤ w.heap.size)
    (h : ∀ v' w', Own w' base e v' (xs ++ news) → w.grownBy w' v.ownBlock → Fresh v' v.ownBlock w.heap.size → wpList P ops Q rest (a.put o.dst v') w') : wpList P ops Q (o :: rest) a w :=
  wpList_plain hgd fun _ hK => wp_append_any s x t ho base e z bytes ht hinfo hzs v xs hs hown B A m c news hx hm hr h1 h63 hbytes hbase fun v' w' h2 h3 h4 => hK _ _ (h v' w' h2 h3 h4)

/-- 'v = append(v, x)': the element lies in a new block of its own. -/
theorem wpList_push {ops : Array Oper} {rest : List Oper} {o : Oper} {a : Act} {Q : Exit → Act → World → Prop} (hgd : o.guard = none) (s x : Operand) (t : TypeId)
    (ho : o.op = .call { callee := .builtin .append, args := #[s, x], argTypes := #[t, t] })
    (base : Nat) (e : TypeId) (z : Value) (bytes : Nat) (ht : P.underlying t = some (.slice e)) (hinfo : (P.info? e).map (fun i => (i.zero, i.size, i.bytes)) = some (some z, 1, bytes)) (hzs : z.cells.size = 1)
    (v : Value) (xs : List Value) (u u' : Value) (hu : u = u') (hs : a.eval s = v) (hown : Own w base e v xs)
    (hx : a.eval x = .slice (some ⟨w.heap.size, 0, none⟩) 1 1) (h1 : u.oneCell' = true)
    (hlen : xs.length + 1 ≤ 9223372036854775807) (hbytes : (xs.length + 1) * bytes ≤ 140737488355328) (hbase : base ≤ w.heap.size)
    (h : ∀ v' w', Own w' base e v' (xs ++ [u']) → w.grownBy w' v.ownBlock → Fresh v' v.ownBlock w.heap.size → wpList P ops Q rest (a.put o.dst v') w') : wpList P ops Q (o :: rest) a (w.alloc (.cells #[u] e)) := by
  subst hu
  refine wpList_append_any hgd s x t ho base e z bytes ht hinfo hzs v xs hs (hown.alloc _) (w.heap.size + 1) (some ⟨w.heap.size, 0, none⟩) 1 1 [u] hx rfl ?_ (by simpa using h1) (by simpa [maxLen] using hlen) hbytes (by simp; omega) ?_
  · intro _
    refine ⟨_, rfl, by simp, fun j x hj => ?_⟩
    match j, hj with
    | 0, hj =>
      simp at hj
      subst hj
      rw [show (⟨w.heap.size, 0, none⟩ : Addr).add 0 = ⟨w.heap.size, 0, none⟩ from rfl, World.cell?_alloc_at _ _ _ _ rfl]
      rfl
  · intro v' w' h2 h3 h4
    refine h v' w' h2 ?_ ?_
    · exact ⟨h3.os, h3.tape, h3.output, Nat.le_trans (by simp) h3.size, fun k hk hne => (h3.block k (by simp; omega) hne).trans (Below.heap_alloc _ _ _ hk)⟩
    · rcases h4 with h4 | ⟨g, h4, hg⟩
      · exact .inl h4
      · exact .inr ⟨g, h4, by simp at hg; omega⟩
end
end Go.Proofs.YtboigomnjfflhaaDoor
