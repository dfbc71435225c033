/- Two rows of files that are one (pavaneref21.Same). Condition: they can be read, and hold the same. -/
import Derived.Test.YtgeofijddhflaaaGreatDoorLDiskApp
import Derived.Test.YtgeofijddhflaaaGreatDoorLKeepRPieces
import Derived.Deep.DeepMust
set_option linter.unusedVariables false
set_option linter.unusedSimpArgs false
namespace Go.Proofs.YtgeofijddhflaaaGreatDoor
section
open Go.RowKit Go.Maps Go.Sort Oct
structure RF where
 v : Value
 f : FD
def aS1 (q : Nm × RF) : List Value := [.string (str q.1), q.2.v, .int .i64 q.2.f.safe]
def aH3 (es : List (Nm × RF)) : List Value := es.flatMap aS1
theorem cF7 : aH3 [] = [] := rfl
theorem aO0 (q : Nm × RF) (es : List (Nm × RF)) : aH3 (q :: es) = aS1 q ++ aH3 es := by unfold aH3; rw [List.flatMap_cons]
theorem bO5 (a b : List (Nm × RF)) : aH3 (a ++ b) = aH3 a ++ aH3 b := by unfold aH3; rw [List.flatMap_append]
theorem bZ9 (a : List (Nm × RF)) (q : Nm × RF) : aH3 (a ++ [q]) = aH3 a ++ aS1 q := by rw [bO5, aO0, cF7, List.append_nil]
theorem cF6 (es : List (Nm × RF)) : (aH3 es).length = es.length * 3 := by
 induction es with
 | nil => rfl
 | cons q r ih => rw [aO0, lT, ih]; simp [aS1]; omega
theorem bD2 (es : List (Nm × RF)) {k : Nat} (hk : k < es.length) {j : Nat} (hj : j < 3) : (aH3 es)[k * 3 + j]? = (aS1 es[k])[j]? := by
 induction es generalizing k with
 | nil => simp at hk
 | cons q r ih =>
  rw [aO0];cases k with
  | zero => rw [List.getElem?_append_left (by simp [aS1]; omega)]; simp
  | succ k =>
   rw [List.getElem?_append_right (by simp [aS1]; omega)];have : (k + 1) * 3 + j - (aS1 q).length = k * 3 + j := by simp [aS1]; omega
   rw [this, ih (by simpa using hk)]
   rfl
theorem cF8 (es : List (Nm × RF)) {k : Nat} (hk : k < es.length) {j : Nat} (hj : j < 3) (u : Value) (q : Nm × RF) (hq : aS1 q = (aS1 es[k]).set j u) : (aH3 es).set (k * 3 + j) u = aH3 (es.set k q) := by
 induction es generalizing k with
 | nil => simp at hk
 | cons x r ih =>
  cases k with
  | zero =>
   simp only [List.set_cons_zero, aO0, Nat.zero_mul, Nat.zero_add];rw [List.set_append, if_pos (by simp [aS1]; omega)];simp only [List.getElem_cons_zero] at hq;rw [hq]
  | succ k =>
   simp only [List.set_cons_succ, aO0];rw [List.set_append, if_neg (by simp [aS1]; omega)];have : (k + 1) * 3 + j - (aS1 x).length = k * 3 + j := by simp [aS1]; omega
   rw [this, ih (by simpa using hk) hq]
def aO7 (g : Nat) (vL : Value) (es : List (Nm × RF)) (k : Nat) : Prop := k = g ∨ vL.ownBlock = some k ∨ ∃ q ∈ es, q.2.v.ownBlock = some k
structure aD3 (w : World) (base g : Nat) (p : PWD) (room : Int) (vL : Value) (es : List (Nm × RF)) : Prop where
 blk : ∃ x y : Int, Blk w g 74 #[vL, .int .i64 room, .bool p.off, .bool p.armed, .int .i64 x, .int .i64 y] ∧ (p.armed = true -> x = p.acts ∧ y = p.part) ∧ (-9223372036854775808 <= x ∧ x <= 9223372036854775807) ∧ (-9223372036854775808 <= y ∧ y <= 9223372036854775807)
 own : w.ownsRow base 85 3 vL es.length (aH3 es)
 got : ∀ q ∈ es, Got w base q.2.v q.2.f.b
 safe : ∀ q ∈ es, q.2.f.safe <= q.2.f.b.length
 rising : aG8 es
 low : base <= g
 num : (p.armed = true -> 0 <= p.acts) ∧ 0 <= room ∧ room <= 9223372036854775807
section
variable {w w' : World} {base g : Nat} {p : PWD} {room : Int} {vL : Value} {es : List (Nm × RF)}
theorem aD3.glt (h : aD3 w base g p room vL es) : g < w.heap.size := by obtain ⟨x, y, hb, _⟩ := h.blk; exact hb.lt
theorem aD3.lt (h : aD3 w base g p room vL es) : ∀ k, aO7 g vL es k -> base <= k ∧ k < w.heap.size := by
 intro k hk;rcases hk with rfl | hk | ⟨q, hq, hk⟩
 ·exact ⟨h.low, h.glt⟩
 ·exact World.ownsRow.lt h.own k hk
 exact ⟨(h.got q hq).row.base k hk, (h.got q hq).row.lt k hk⟩
theorem bI0 {e : TypeId} {size n : Nat} {v : Value} {xs : List Value} (h : w.ownsRow base e size v n xs) (hk : ∀ k, v.ownBlock = some k -> w'.heap[k]? = w.heap[k]?) : w'.ownsRow base e size v n xs := by
 refine ⟨h.1, ?_⟩;rcases h.2 with hn | ⟨g', cap, a7, hv, hb, hg, rest⟩
 ·exact .inl hn
 exact .inr ⟨g', cap, a7, hv, hb, (hk g' (by rw [hv]; rfl)).trans hg, rest⟩
theorem aD3.keep (h : aD3 w base g p room vL es) (hs : w.heap.size <= w'.heap.size) (hk : ∀ k, aO7 g vL es k -> w'.heap[k]? = w.heap[k]?) : aD3 w' base g p room vL es := by
 obtain ⟨x, y, hb, a7⟩ := h.blk;exact ⟨⟨x, y, (hk g (.inl rfl)).trans hb, a7⟩, bI0 h.own fun k e => hk k (.inr (.inl e)), fun q hq => (h.got q hq).kept (fun j hj => hk j (.inr (.inr ⟨q, hq, hj⟩))) hs, h.safe, h.rising, h.low, h.num⟩
theorem aD3.below (h : aD3 w base g p room vL es) (hb : Below w.heap.size w w') : aD3 w' base g p room vL es :=
 h.keep hb.size fun k hk => hb.block k (h.lt k hk).2
theorem aD3.drewN_ (h : aD3 w base g p room vL es) (k : Nat) : aD3 (w.drewN k) base g p room vL es := h.keep (lR _) fun _ _ => rfl
theorem bR1 {e T : TypeId} {size n a : Nat} {v : Value} {xs : List Value} {cs : Array Value} (h : w.ownsRow base e size v n xs) (hb : Blk w a T cs) (hT : T ≠ e) : v.ownBlock ≠ some a := fun hv => by
 rcases h.2 with ⟨hn, _⟩ | ⟨g', cap, cur, hv', _, hg, _⟩
 ·rw [hn] at hv; cases hv
 rw [hv'] at hv;have e' : g' = a := by simpa [Value.ownBlock] using hv
 subst e';exact blk_ne hb hg hT rfl
theorem cP1 {e : TypeId} {base' size n : Nat} {v x : Value} {xs : List Value} {l : List UInt8} (h : w.ownsRow base e size v n xs) (hx : Got w base' x l) (he : e ≠ 5) : ∀ k, x.ownBlock = some k -> v.ownBlock ≠ some k := fun k hk hv => by
 rcases h.2 with ⟨hn, _⟩ | ⟨g', cap, cur, hv', _, hg, _⟩
 ·rw [hn] at hv; cases hv
 rw [hv'] at hv;have e' : g' = k := by simpa [Value.ownBlock] using hv
 subst e';exact aF0 hx (T := e) (cs := cur) hg he hk
def RTo (w : World) (base g : Nat) (vL : Value) (es : List (Nm × RF)) (d : DkD) (w' : World) : Prop := ∃ vL' es', aD3 w' base g d.pw d.room vL' es' ∧ sec RF.f es' = d.fs ∧ Fr (aO7 g vL es) w w' ∧ ∀ k, aO7 g vL' es' k -> aO7 g vL es k ∨ w.heap.size <= k
abbrev dQ0 (p : PWD) (room : Int) (es : List (Nm × RF)) : DkD := ⟨p, room, sec RF.f es⟩
theorem RTo.mk' (h : aD3 w' base g p room vL es) (hf : Fr (aO7 g vL es) w w') : RTo w base g vL es (dQ0 p room es) w' := ⟨vL, es, h, rfl, hf, fun k hk => .inl hk⟩
theorem RTo.below {w1 : World} {d : DkD} (h : RTo w base g vL es d w') (hb : Below w'.heap.size w' w1) : RTo w base g vL es d w1 := by
 obtain ⟨a7, es', h1, h2, h3, h4⟩ := h;exact ⟨a7, es', h1.below hb, h2, h3.trans (Fr.of_below (fun _ => False) hb) (fun j hj => hj.elim), h4⟩
theorem RTo.trans {w1 w2 : World} {vL1 : Value} {es1 : List (Nm × RF)} {d : DkD} (hf : Fr (aO7 g vL es) w w1) (hi : ∀ k, aO7 g vL1 es1 k -> aO7 g vL es k ∨ w.heap.size <= k) (h : RTo w1 base g vL1 es1 d w2) : RTo w base g vL es d w2 := by
 obtain ⟨a7, es', h1, h2, h3, h4⟩ := h;refine ⟨a7, es', h1, h2, hf.trans h3 hi, fun k hk => ?_⟩;rcases h4 k hk with h5 | h5
 ·exact hi k h5
 exact .inr (Nat.le_trans hf.size h5)
theorem aD3.shape (h : aD3 w base g p room vL es) : ∃ A c, vL = .slice A es.length c ∧ es.length <= c ∧ c <= maxLen ∧ ∀ k, (hk : k < es.length) -> ∃ b, A = some ⟨b, 0, none⟩ ∧ b < w.heap.size ∧ w.cell? ⟨b, k * 3, none⟩ = some (.string (str es[k].1)) ∧ w.cell? ⟨b, k * 3 + 1, none⟩ = some es[k].2.v ∧ w.cell? ⟨b, k * 3 + 2, none⟩ = some (.int .i64 es[k].2.f.safe) ∧
  w.frozen? ⟨b, k * 3 + 1, none⟩ = false ∧ w.frozen? ⟨b, k * 3 + 2, none⟩ = false := by
 rcases h.own.2 with ⟨hn, h0⟩ | ⟨b, cap, a7, hv, hb, hg, hc, a8, a9, hx⟩
 ·exact ⟨none, 0, by rw [hn, h0], by omega, by unfold maxLen; omega, fun k hk => by omega⟩
 refine ⟨_, cap, hv, hc, a8, fun k hk => ⟨b, rfl, (Array.getElem?_eq_some_iff.1 hg).1, ?_, ?_, ?_, ?_, ?_⟩⟩
 ·rw [World.ownsRow.cellAt (hv ▸ h.own) (k * 3) (by omega)]
  exact bD2 es hk (j := 0) (by omega)
 ·rw [World.ownsRow.cellAt (hv ▸ h.own) (k * 3 + 1) (by omega)]
  exact bD2 es hk (j := 1) (by omega)
 ·rw [World.ownsRow.cellAt (hv ▸ h.own) (k * 3 + 2) (by omega)]
  exact bD2 es hk (j := 2) (by omega)
 ·exact Blk.frozen (t := 85) (cs := a7) hg _
 exact Blk.frozen (t := 85) (cs := a7) hg _
theorem aD3.power (h : aD3 w base g p room vL es) {p' : PWD} (hg : w.grownBy w' (some g)) {x y : Int} (hB : Blk w' g 74 #[vL, .int .i64 room, .bool p'.off, .bool p'.armed, .int .i64 x, .int .i64 y])
  (a9 : (p'.armed = true -> x = p'.acts ∧ y = p'.part) ∧ (-9223372036854775808 <= x ∧ x <= 9223372036854775807) ∧ (-9223372036854775808 <= y ∧ y <= 9223372036854775807)) (hn : p'.armed = true -> 0 <= p'.acts) : aD3 w' base g p' room vL es := by
 obtain ⟨x0, y0, a7, _⟩ := h.blk;have a8 : ∀ k, aO7 g vL es k -> k ≠ g -> w'.heap[k]? = w.heap[k]? := fun k hk hn => hg.block k (h.lt k hk).2 (fun e => hn (by injection e))
 exact ⟨⟨x, y, hB, a9⟩, bI0 h.own fun k e => a8 k (.inr (.inl e)) (fun e' => bR1 h.own a7 (by decide) (by rw [e, e'])),
  fun q hq => (h.got q hq).kept (fun j hj => a8 j (.inr (.inr ⟨q, hq, hj⟩)) (fun e => aF0 (h.got q hq) a7 (by decide) (by rw [hj, e]))) hg.size, h.safe, h.rising, h.low, ⟨hn, h.num.2⟩⟩
theorem aD3.row (h : aD3 w base g p room vL es) {vL' : Value} {es' : List (Nm × RF)} (hs : w.heap.size <= w'.heap.size) {x y : Int} (hB : Blk w' g 74 #[vL', .int .i64 room, .bool p.off, .bool p.armed, .int .i64 x, .int .i64 y])
  (hxy : (p.armed = true -> x = p.acts ∧ y = p.part) ∧ (-9223372036854775808 <= x ∧ x <= 9223372036854775807) ∧ (-9223372036854775808 <= y ∧ y <= 9223372036854775807))
  (hown : w'.ownsRow base 85 3 vL' es'.length (aH3 es')) (hgot : ∀ q ∈ es', Got w' base q.2.v q.2.f.b) (hsafe : ∀ q ∈ es', q.2.f.safe <= q.2.f.b.length) (hr : aG8 es') : aD3 w' base g p room vL' es' :=
 ⟨⟨x, y, hB, hxy⟩, hown, hgot, hsafe, hr, h.low, h.num⟩
theorem aM9 {α β : Type} (f : α -> β) (l : List (Nm × α)) : (sec f l).length = l.length := by simp [sec]
end
end
section
open Go.RowKit Go.Maps Go.Sort Oct
theorem bW3 {w : World} {g : Nat} {t : TypeId} {cs : List Value} (h : Blk w g t cs.toArray) (j : Nat) (u : Value) (hj : cs[j]? = some u) : w.cell? ((⟨g, 0, none⟩ : Addr).add j) = some u := by
 have a7 : (⟨g, 0, none⟩ : Addr).add j = ⟨g, j, none⟩ := by unfold Addr.add; split <;> simp_all
 rw [a7, h.cell]
 simpa using hj
def cC1 (w : World) (base : Nat) (v : Value) (es : List (Nm × RF)) : Prop := w.ownsRow base 85 3 v es.length (aH3 es)
theorem cC1.nil (w : World) (base : Nat) : cC1 w base (.slice none 0 0) [] := World.ownsRow_nil _ _ _ _
theorem cC1.lt {w : World} {base : Nat} {v : Value} {es : List (Nm × RF)} (h : cC1 w base v es) : ∀ k, v.ownBlock = some k -> base <= k ∧ k < w.heap.size := World.ownsRow.lt h
theorem cC1.below {w w' : World} {base : Nat} {v : Value} {es : List (Nm × RF)} (h : cC1 w base v es) (hb : Below w.heap.size w w') : cC1 w' base v es := bI0 h fun k hk => hb.block k (h.lt k hk).2
theorem cC1.shape {w : World} {base : Nat} {v : Value} {es : List (Nm × RF)} (h : cC1 w base v es) : ∃ A c, v = .slice A es.length c := by
 rcases h.2 with ⟨hn, h0⟩ | ⟨b, cap, a7, hv, _⟩
 ·exact ⟨none, 0, by rw [hn, h0]⟩
 exact ⟨_, cap, hv⟩
theorem cC1.push {w wr w2 : World} {N : Nat} {v v' : Value} {l : List (Nm × RF)} {q : Nm × RF} {Ax : Option Addr} {cx : Nat} (hB : Below N w wr) (hN : N <= wr.heap.size) (hR : cC1 wr N v l) (hv : q.2.v = .slice Ax q.2.f.b.length cx) {o : Obj}
  (a7 : w2.ownsRow N 85 3 v' (l.length + 1) (aH3 l ++ [.string (str q.1), .slice Ax q.2.f.b.length cx, .int .i64 q.2.f.safe])) (hg : (wr.alloc o).grownBy w2 v.ownBlock) : cC1 w2 N v' (l ++ [q]) ∧ Below N w w2 := by
 refine ⟨?_, (hB.alloc hN o).grown hg (by simp; omega) (fun k hk => (hR.lt k hk).1)⟩;unfold cC1;rw [bZ9, lT];unfold aS1;rw [hv];exact a7
theorem aU1 {α : Type} {n : Nm} {l : List (Nm × α)} (h : aG8 l) : aG8 (aB6 n l) := List.Pairwise.filter _ h
section
variable {α : Type}
theorem bE5 {x : Nm × α} : ∀ {d : List (Nm × α)}, aG8 d -> (∀ q ∈ d, q.1 ≠ x.1) -> aG8 (asIns x d)
 | [], _, _ => by simp [asIns, aG8]
 | y :: r, h, hne => by
  have h1 := List.pairwise_cons.1 h;unfold asIns;by_cases hb : bytesBefore x.1 y.1 = true
  ·rw [if_pos hb]
   refine List.pairwise_cons.2 ⟨fun q hq => ?_, h⟩;rcases List.mem_cons.1 hq with rfl | hq
   ·exact hb
   exact WideShapes.bytes_trans _ _ _ hb (h1.1 q hq)
  rw [if_neg hb];refine List.pairwise_cons.2 ⟨fun q hq => ?_, bE5 h1.2 (fun q hq => hne q (List.mem_cons_of_mem _ hq))⟩;rcases asIns_mem.1 hq with rfl | hq
  ·rcases WideAt.bytes_total y.1 q.1 (hne y (List.mem_cons_self ..)) with h2 | h2
   ·exact h2
   exact absurd h2 hb
  exact h1.1 q hq
theorem aQ2 {n : Nm} {a : α} {l : List (Nm × α)} (h : aG8 l) : aG8 (aB3 n a l) := bE5 (aU1 h) (fun q hq => (aI5.1 hq).2)
end
end
section
open Go.RowKit Go.Maps Go.Sort Oct
theorem cC1.heap {w W : World} {base : Nat} {v : Value} {es : List (Nm × RF)} (h : cC1 w base v es) (e : W.heap = w.heap) : cC1 W base v es := bI0 h fun k _ => by rw [e]
end
section
open Go.RowKit Go.Maps Go.Sort Oct
section
variable {w w1 w2 : World} {base g : Nat} {p p' : PWD} {room : Int} {vL vL' : Value} {es es' : List (Nm × RF)}
theorem aU3 {α : Type} {a : α} : ∀ {l : List (Nm × α)} (hr : aG8 l) {k : Nat} (hk : k < l.length), aB3 l[k].1 a l = l.set k (l[k].1, a)
 | [], _, k, hk => by simp at hk
 | y :: r, hr, k, hk => by
  have h1 := List.pairwise_cons.1 hr;have hne : ∀ q ∈ r, q.1 ≠ y.1 := fun q hq e => by
   have := h1.1 q hq;rw [e, show bytesBefore y.1 y.1 = false from WideAt.bytes_irrefl _] at this;cases this
  cases k with
  | zero =>
   simp only [List.getElem_cons_zero, List.set_cons_zero];unfold aB3 aB6;rw [List.filter_cons_of_neg (by simp), List.filter_eq_self.2 (fun q hq => by simpa using hne q hq)];cases r with
   | nil => rfl
   | cons z r =>
    unfold asIns;rw [if_pos (h1.1 z (List.mem_cons_self ..))]
  | succ k =>
   have hk' : k < r.length := by simpa using hk
   simp only [List.getElem_cons_succ, List.set_cons_succ];have ih := aU3 (a := a) h1.2 hk';unfold aB3 aB6 at ih ⊢;have h2 := h1.1 r[k] (lX hk');rw [List.filter_cons_of_pos (by simpa using (hne _ (lX hk')).symm)];unfold asIns;rw [if_neg (fun h3 => by
    have := WideShapes.bytes_trans _ _ _ h2 h3;rw [show bytesBefore y.1 y.1 = false from WideAt.bytes_irrefl _] at this;cases this)]
   rw [ih]
theorem aD3.setRow {b c : Nat} (h : aD3 w base g p room (.slice (some ⟨b, 0, none⟩) es.length c) es) {k : Nat} (hk : k < es.length) (q' : RF) (st : List Value -> List Value) (i3 : ∀ l, (st l).length = l.length) (hw : ∀ i, i ≠ b -> w2.heap[i]? = w.heap[i]?) (g6 : w2.heap.size = w.heap.size) (f7 : w2.os = w.os ∧ w2.tape = w.tape ∧ w2.output = w.output)
  (hb : ∀ a8, Blk w b 85 a8 -> ∃ a7, Blk w2 b 85 a7 ∧ a7.size = a8.size ∧ ∀ N, a7.toList.take N = st (a8.toList.take N)) (hq : st (aH3 es) = aH3 (es.set k (es[k].1, q'))) (e9 : Got w base q'.v q'.f.b) (d8 : q'.f.safe <= q'.f.b.length)
  (a9 : ∀ i, q'.v.ownBlock = some i -> aO7 g (.slice (some ⟨b, 0, none⟩) es.length c) es i ∨ w1.heap.size <= i) :
  aD3 w2 base g p room (.slice (some ⟨b, 0, none⟩) es.length c) (aB3 es[k].1 q' es) ∧ Fr (aO7 g (.slice (some ⟨b, 0, none⟩) es.length c) es) w w2 ∧
  (∀ i, aO7 g (.slice (some ⟨b, 0, none⟩) es.length c) (aB3 es[k].1 q' es) i -> aO7 g (.slice (some ⟨b, 0, none⟩) es.length c) es i ∨ w1.heap.size <= i) := by
 have f8 := aU3 (a := q') h.rising hk;have b8 := aQ2 (n := es[k].1) (a := q') h.rising;obtain ⟨x, y, hB, i4⟩ := h.blk;have g7 : base <= b := (World.ownsRow.lt h.own b rfl).1;have i2 : g ≠ b := fun e => bR1 h.own hB (by decide) (by rw [e]; rfl)
 have f9 : ∀ q : Nm × RF, Got w base q.2.v q.2.f.b -> Got w2 base q.2.v q.2.f.b := fun q hq => hq.kept (fun i hi => hw i (fun e => cP1 h.own hq (by decide) i hi (by rw [e]; rfl))) (by rw [g6]; exact lR _)
 refine ⟨⟨⟨x, y, (hw g i2).trans hB, i4⟩, ?_, fun q hq => ?_, fun q hq => ?_, b8, h.low, h.num⟩, ⟨f7.1, f7.2.1, f7.2.2, by rw [g6]; exact lR _, fun i _ hm => hw i (fun e => hm (.inr (.inl (by rw [e]; rfl))))⟩, fun i hi => ?_⟩
 ·rw [f8, <- hq, List.length_set]
  refine ⟨by rw [i3, cF6], .inr ?_⟩;rcases h.own.2 with ⟨hn, _⟩ | ⟨b', cap, a8, hv, _, i1, hc, g8, g9, hx⟩
  ·cases hn
  injection hv with hv1 _ hv3
  injection hv1 with hv1
  injection hv1 with hv1
  subst hv1 hv3;obtain ⟨a7, h1, h2, h3⟩ := hb a8 i1;exact ⟨b, c, a7, rfl, g7, h1, hc, g8, by rw [h2]; exact g9, by rw [h3, hx]⟩
 ·rcases asPut_mem.1 hq with rfl | ⟨hq, _⟩
  ·exact f9 (es[k].1, q') e9
  exact f9 q (h.got q hq)
 ·rcases asPut_mem.1 hq with rfl | ⟨hq, _⟩
  ·exact d8
  exact h.safe q hq
 rcases hi with rfl | hi | ⟨q, hq, hi⟩
 ·exact .inl (.inl rfl)
 ·exact .inl (.inr (.inl hi))
 rcases asPut_mem.1 hq with rfl | ⟨hq, _⟩
 ·exact a9 i hi
 exact .inl (.inr (.inr ⟨q, hq, hi⟩))
theorem cB5 (cur : Array Value) (i : Nat) (u : Value) (N : Nat) : (cur.setIfInBounds i u).toList.take N = (cur.toList.take N).set i u := by rw [Array.toList_setIfInBounds, List.take_set]
theorem aD3.setFile {b c : Nat} (h : aD3 w base g p room (.slice (some ⟨b, 0, none⟩) es.length c) es) {k : Nat} (hk : k < es.length) {j : Nat} (hj : j < 3) (u : Value) (q' : RF) (hq : aS1 (es[k].1, q') = (aS1 es[k]).set j u) (hgot : Got w base q'.v q'.f.b) (hsafe : q'.f.safe <= q'.f.b.length)
  (hfoot : ∀ i, q'.v.ownBlock = some i -> aO7 g (.slice (some ⟨b, 0, none⟩) es.length c) es i ∨ w1.heap.size <= i) :
  aD3 (w.setCell ⟨b, k * 3 + j, none⟩ u) base g p room (.slice (some ⟨b, 0, none⟩) es.length c) (aB3 es[k].1 q' es) ∧ Fr (aO7 g (.slice (some ⟨b, 0, none⟩) es.length c) es) w (w.setCell ⟨b, k * 3 + j, none⟩ u) ∧
  (∀ i, aO7 g (.slice (some ⟨b, 0, none⟩) es.length c) (aB3 es[k].1 q' es) i -> aO7 g (.slice (some ⟨b, 0, none⟩) es.length c) es i ∨ w1.heap.size <= i) :=
 h.setRow hk q' (fun l => l.set (k * 3 + j) u) (fun l => List.length_set ..) (fun i hi => Below.heap_setCell w ⟨b, k * 3 + j, none⟩ u i (by simpa using hi)) (by simp) ⟨(aA0 w b (k * 3 + j) u).os, (aA0 w b (k * 3 + j) u).tape, (aA0 w b (k * 3 + j) u).output⟩
  (fun cur hc => ⟨_, Blk.set_ hc (k * 3 + j) u, by simp, fun N => cB5 cur _ u N⟩) (cF8 es hk hj u (es[k].1, q') hq) hgot hsafe hfoot
end
end
section
open Go.RowKit Go.Maps Go.Sort Oct
def aL9 (keep : List Int) (i : Nat) (f : FD) : FD :=
 ⟨f.b.take (f.safe + if i < keep.length then (keep.getD i 0 % ((f.b.length : Int) - f.safe + 1)).toNat else 0), f.safe + if i < keep.length then (keep.getD i 0 % ((f.b.length : Int) - f.safe + 1)).toNat else 0⟩
def aJ5 (keep : List Int) (k : Nat) (fs : List (Nm × FD)) : List (Nm × FD) := fs.mapIdx fun i q => if i < k then (q.1, aL9 keep i q.2) else q
def DkD.boot (d : DkD) (keep : List Int) : DkD := ⟨⟨false, false, 0, 0⟩, d.room, aJ5 keep d.fs.length d.fs⟩
theorem cL8 (keep : List Int) (fs : List (Nm × FD)) : aJ5 keep 0 fs = fs := by
 unfold aJ5;refine List.ext_getElem (by simp) fun i h1 h2 => ?_
 rw [List.getElem_mapIdx, if_neg (by omega)]
theorem aN6 (keep : List Int) (k : Nat) (fs : List (Nm × FD)) : (aJ5 keep k fs).length = fs.length := by unfold aJ5; simp
theorem cR2 (keep : List Int) {k : Nat} {fs : List (Nm × FD)} (hk : k < fs.length) (h : k < (aJ5 keep k fs).length) : (aJ5 keep k fs)[k] = fs[k] := by
 have h1 : ∀ h', (fs.mapIdx fun i q => if i < k then (q.1, aL9 keep i q.2) else q)[k]'(h') = fs[k] := fun h' => by rw [List.getElem_mapIdx, if_neg (by omega)]
 exact h1 _
theorem cL7 (keep : List Int) {k : Nat} {fs : List (Nm × FD)} (hk : k < fs.length) : (aJ5 keep k fs).set k (fs[k].1, aL9 keep k fs[k].2) = aJ5 keep (k + 1) fs := by
 unfold aJ5;refine List.ext_getElem (by simp) fun i h1 h2 => ?_
 rw [List.getElem_set, List.getElem_mapIdx, List.getElem_mapIdx];by_cases he : k = i
 ·subst he
  rw [if_pos rfl, if_pos (by omega)]
 rw [if_neg he];by_cases hlt : i < k
 ·rw [if_pos hlt, if_pos (by omega)]
 rw [if_neg hlt, if_neg (by omega)]
theorem cD0 (keep : List Int) (i : Nat) (f : FD) (h : f.safe <= f.b.length) : (aL9 keep i f).safe <= f.b.length ∧ (aL9 keep i f).b = f.b.take (aL9 keep i f).safe := by
 refine ⟨?_, rfl⟩;unfold aL9;show f.safe + _ <= _
 split
 ·have h1 := Int.emod_lt_of_pos (keep.getD i 0) (show (0 : Int) < (f.b.length : Int) - f.safe + 1 by omega)
  have h2 := Int.emod_nonneg (keep.getD i 0) (show ((f.b.length : Int) - f.safe + 1) ≠ 0 by omega);omega
 omega
section
variable {w w1 w2 wr : World} {base g : Nat} {p p' : PWD} {room : Int} {vL vL' : Value} {es es' : List (Nm × RF)}
theorem dL0 {α β : Type} (f : α -> β) (l : List (Nm × α)) (k : Nat) (q : Nm × α) : sec f (l.set k q) = (sec f l).set k (q.1, f q.2) := by simp only [sec, List.map_set]
theorem aD3.boot1 {b c L : Nat} (hL : es.length = L) (h : aD3 wr base g p room (.slice (some ⟨b, 0, none⟩) L c) es) {k : Nat} (hk : k < es.length) (s : Nat) (hs : s <= es[k].2.f.b.length) (nt : Nat) :
  aD3 ((wr.drewN nt).setCell ⟨b, k * 3 + 2, none⟩ (.int .i64 s)) base g p room (.slice (some ⟨b, 0, none⟩) L c) (es.set k (es[k].1, ⟨es[k].2.v, ⟨es[k].2.f.b, s⟩⟩)) ∧ Fr (aO7 g (.slice (some ⟨b, 0, none⟩) L c) es) wr ((wr.drewN nt).setCell ⟨b, k * 3 + 2, none⟩ (.int .i64 s)) ∧
  (∀ i, aO7 g (.slice (some ⟨b, 0, none⟩) L c) (es.set k (es[k].1, ⟨es[k].2.v, ⟨es[k].2.f.b, s⟩⟩)) i -> aO7 g (.slice (some ⟨b, 0, none⟩) L c) es i ∨ wr.heap.size <= i) := by
 subst hL;have hm : es[k] ∈ es := lX hk;have h1 := (h.drewN_ nt).setFile (w1 := wr) hk (j := 2) (by omega) (.int .i64 (s : Int)) ⟨es[k].2.v, ⟨es[k].2.f.b, s⟩⟩ (by simp [aS1]) ((h.got _ hm).kept (fun _ _ => rfl) (lR _)) hs (fun i hi => .inl (.inr (.inr ⟨_, hm, hi⟩)));rw [aU3 h.rising hk] at h1;exact ⟨h1.1, ((Fr.refl _ _).drewN_ nt).trans h1.2.1 (fun j hj => .inl hj), h1.2.2⟩
theorem aD3.boot2 {b c L : Nat} (hL : es.length = L) (h : aD3 wr base g p room (.slice (some ⟨b, 0, none⟩) L c) es) (hb : Below wr.heap.size wr w2) {k : Nat} (hk : k < es.length) {v : Value} {l : List UInt8} (hs : es[k].2.f.safe <= l.length) (hg : Got w2 wr.heap.size v l) :
  aD3 (w2.setCell ⟨b, k * 3 + 1, none⟩ v) base g p room (.slice (some ⟨b, 0, none⟩) L c) (es.set k (es[k].1, ⟨v, ⟨l, es[k].2.f.safe⟩⟩)) ∧ Fr (aO7 g (.slice (some ⟨b, 0, none⟩) L c) es) wr (w2.setCell ⟨b, k * 3 + 1, none⟩ v) ∧
  (∀ i, aO7 g (.slice (some ⟨b, 0, none⟩) L c) (es.set k (es[k].1, ⟨v, ⟨l, es[k].2.f.safe⟩⟩)) i -> aO7 g (.slice (some ⟨b, 0, none⟩) L c) es i ∨ wr.heap.size <= i) := by
 subst hL;have a7 : base <= wr.heap.size := by have := h.low; have := h.glt; omega
 have h1 := (h.below hb).setFile (w1 := wr) hk (j := 1) (by omega) v ⟨v, ⟨l, es[k].2.f.safe⟩⟩ (by simp [aS1]) (hg.mono a7) hs (fun i hi => .inr (hg.row.base i hi));rw [aU3 h.rising hk] at h1;exact ⟨h1.1, (Fr.of_below _ hb).trans h1.2.1 (fun j hj => .inl hj), h1.2.2⟩
end
end
section
open Go.RowKit Go.Maps Go.Sort Oct
structure FRd (w : World) (A : Option Addr) (es : List (Nm × RF)) : Prop where
 at_ : ∀ k, (hk : k < es.length) -> ∃ b, A = some ⟨b, 0, none⟩ ∧ b < w.heap.size ∧ w.cell? ⟨b, k * 3, none⟩ = some (.string (str es[k].1)) ∧ w.cell? ⟨b, k * 3 + 1, none⟩ = some es[k].2.v ∧ w.cell? ⟨b, k * 3 + 2, none⟩ = some (.int .i64 es[k].2.f.safe)
 bytes : ∀ q ∈ es, ∃ Ax cx, q.2.v = .slice Ax q.2.f.b.length cx ∧ Rd w w.heap.size Ax (cells q.2.f.b)
theorem FRd.below {w w' : World} {A : Option Addr} {es : List (Nm × RF)} (h : FRd w A es) (hb : Below w.heap.size w w') : FRd w' A es := by
 refine ⟨fun k hk => ?_, fun q hq => ?_⟩
 ·obtain ⟨b, h1, h2, h3, h4, h5⟩ := h.at_ k hk
  have := hb.size;exact ⟨b, h1, by omega, (hb.cell (p := ⟨b, k * 3, none⟩) h2).trans h3, (hb.cell (p := ⟨b, k * 3 + 1, none⟩) h2).trans h4, (hb.cell (p := ⟨b, k * 3 + 2, none⟩) h2).trans h5⟩
 obtain ⟨Ax, cx, h1, h2⟩ := h.bytes q hq;exact ⟨Ax, cx, h1, (h2.below hb).more hb.size⟩
end
end Go.Proofs.YtgeofijddhflaaaGreatDoor
