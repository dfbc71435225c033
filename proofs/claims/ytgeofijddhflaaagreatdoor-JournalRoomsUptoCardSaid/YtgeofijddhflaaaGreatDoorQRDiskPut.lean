/- The reference's disk: drop, put. Condition: the disk is a call's own. -/
import Derived.Test.YtgeofijddhflaaaGreatDoorQDiskOp
import Derived.Test.YtgeofijddhflaaaGreatDoorQKeepRPieces
import Derived.BigQuiet
import Derived.Deep.QuietTactic
set_option linter.unusedVariables false
namespace Go.Proofs.YtgeofijddhflaaaGreatDoor
open Go.RowKit Go.Maps Go.Sort Oct
structure RF where
 v : Value
 f : FD
def rfOne (q : Nm × RF) : List Value := [.string (str q.1), q.2.v, .int .i64 q.2.f.safe]
def rfCells (es : List (Nm × RF)) : List Value := es.flatMap rfOne
theorem rfCells_nil : rfCells [] = [] := rfl
theorem rfCells_cons (q : Nm × RF) (es : List (Nm × RF)) : rfCells (q :: es) = rfOne q ++ rfCells es := by unfold rfCells; rw [List.flatMap_cons]
theorem rfCells_append (a b : List (Nm × RF)) : rfCells (a ++ b) = rfCells a ++ rfCells b := by unfold rfCells; rw [List.flatMap_append]
theorem rfCells_snoc (a : List (Nm × RF)) (q : Nm × RF) : rfCells (a ++ [q]) = rfCells a ++ rfOne q := by rw [rfCells_append, rfCells_cons, rfCells_nil, List.append_nil]
theorem rfCells_len (es : List (Nm × RF)) : (rfCells es).length = es.length * 3 := by
 induction es with
 | nil => rfl
 | cons q r ih => rw [rfCells_cons, List.length_append, ih]; simp [rfOne]; omega
theorem rfCells_at (es : List (Nm × RF)) {k : Nat} (hk : k < es.length) {j : Nat} (hj : j < 3) : (rfCells es)[k * 3 + j]? = (rfOne es[k])[j]? := by
 induction es generalizing k with
 | nil => simp at hk
 | cons q r ih =>
  rw [rfCells_cons]
  cases k with
  | zero => rw [List.getElem?_append_left (by simp [rfOne]; omega)]; simp
  | succ k =>
   rw [List.getElem?_append_right (by simp [rfOne]; omega)]
   have : (k + 1) * 3 + j - (rfOne q).length = k * 3 + j := by simp [rfOne]; omega
   rw [this, ih (by simpa using hk)]
   rfl
theorem rfCells_set (es : List (Nm × RF)) {k : Nat} (hk : k < es.length) {j : Nat} (hj : j < 3) (u : Value) (q : Nm × RF) (hq : rfOne q = (rfOne es[k]).set j u) : (rfCells es).set (k * 3 + j) u = rfCells (es.set k q) := by
 induction es generalizing k with
 | nil => simp at hk
 | cons x r ih =>
  cases k with
  | zero =>
   simp only [List.set_cons_zero, rfCells_cons, Nat.zero_mul, Nat.zero_add]
   rw [List.set_append, if_pos (by simp [rfOne]; omega)]
   simp only [List.getElem_cons_zero] at hq
   rw [hq]
  | succ k =>
   simp only [List.set_cons_succ, rfCells_cons]
   rw [List.set_append, if_neg (by simp [rfOne]; omega)]
   have : (k + 1) * 3 + j - (rfOne x).length = k * 3 + j := by simp [rfOne]; omega
   rw [this, ih (by simpa using hk) hq]
def RFoot (g : Nat) (vL : Value) (es : List (Nm × RF)) (k : Nat) : Prop := k = g ∨ vL.ownBlock = some k ∨ ∃ q ∈ es, q.2.v.ownBlock = some k
structure RDiskAt (w : World) (base g : Nat) (p : PWD) (room : Int) (vL : Value) (es : List (Nm × RF)) : Prop where
 blk : ∃ x y : Int, Blk w g 74 #[vL, .int .i64 room, .bool p.off, .bool p.armed, .int .i64 x, .int .i64 y] ∧ (p.armed = true → x = p.acts ∧ y = p.part) ∧ (-9223372036854775808 ≤ x ∧ x ≤ 9223372036854775807) ∧ (-9223372036854775808 ≤ y ∧ y ≤ 9223372036854775807)
 own : w.ownsRow base 85 3 vL es.length (rfCells es)
 got : ∀ q ∈ es, Got w base q.2.v q.2.f.b
 safe : ∀ q ∈ es, q.2.f.safe ≤ q.2.f.b.length
 rising : Rising es
 low : base ≤ g
 num : (p.armed = true → 0 ≤ p.acts) ∧ 0 ≤ room ∧ room ≤ 9223372036854775807
section
variable {w w' : World} {base g : Nat} {p : PWD} {room : Int} {vL : Value} {es : List (Nm × RF)}
theorem RDiskAt.glt (h : RDiskAt w base g p room vL es) : g < w.heap.size := by obtain ⟨x, y, hb, _⟩ := h.blk; exact hb.lt
theorem RDiskAt.lt (h : RDiskAt w base g p room vL es) : ∀ k, RFoot g vL es k → base ≤ k ∧ k < w.heap.size := by
 intro k hk
 rcases hk with rfl | hk | ⟨q, hq, hk⟩
 ·exact ⟨h.low, h.glt⟩
 ·exact World.ownsRow.lt h.own k hk
 ·exact ⟨(h.got q hq).row.base k hk, (h.got q hq).row.lt k hk⟩
theorem row_keep {e : TypeId} {size n : Nat} {v : Value} {xs : List Value} (h : w.ownsRow base e size v n xs) (hk : ∀ k, v.ownBlock = some k → w'.heap[k]? = w.heap[k]?) : w'.ownsRow base e size v n xs := by
 refine ⟨h.1, ?_⟩
 rcases h.2 with hn | ⟨g', cap, cur, hv, hb, hg, rest⟩
 ·exact .inl hn
 ·exact .inr ⟨g', cap, cur, hv, hb, (hk g' (by rw [hv]; rfl)).trans hg, rest⟩
theorem RDiskAt.keep (h : RDiskAt w base g p room vL es) (hs : w.heap.size ≤ w'.heap.size) (hk : ∀ k, RFoot g vL es k → w'.heap[k]? = w.heap[k]?) : RDiskAt w' base g p room vL es := by
 obtain ⟨x, y, hb, hxy⟩ := h.blk
 exact ⟨⟨x, y, (hk g (.inl rfl)).trans hb, hxy⟩, row_keep h.own fun k e => hk k (.inr (.inl e)), fun q hq => (h.got q hq).kept (fun j hj => hk j (.inr (.inr ⟨q, hq, hj⟩))) hs, h.safe, h.rising, h.low, h.num⟩
theorem RDiskAt.below (h : RDiskAt w base g p room vL es) (hb : Below w.heap.size w w') : RDiskAt w' base g p room vL es :=
 h.keep hb.size fun k hk => hb.block k (h.lt k hk).2
theorem RDiskAt.drewN_ (h : RDiskAt w base g p room vL es) (k : Nat) : RDiskAt (w.drewN k) base g p room vL es := h.keep (Nat.le_refl _) fun _ _ => rfl
theorem row_blk_ne {e T : TypeId} {size n a : Nat} {v : Value} {xs : List Value} {cs : Array Value} (h : w.ownsRow base e size v n xs) (hb : Blk w a T cs) (hT : T ≠ e) : v.ownBlock ≠ some a := fun hv => by
 rcases h.2 with ⟨hn, _⟩ | ⟨g', cap, cur, hv', _, hg, _⟩
 ·rw [hn] at hv; cases hv
 ·rw [hv'] at hv
  have e' : g' = a := by simpa [Value.ownBlock] using hv
  subst e'
  exact blk_ne hb hg hT rfl
theorem row_got_ne {e : TypeId} {base' size n : Nat} {v x : Value} {xs : List Value} {l : List UInt8} (h : w.ownsRow base e size v n xs) (hx : Got w base' x l) (he : e ≠ 5) : ∀ k, x.ownBlock = some k → v.ownBlock ≠ some k := fun k hk hv => by
 rcases h.2 with ⟨hn, _⟩ | ⟨g', cap, cur, hv', _, hg, _⟩
 ·rw [hn] at hv; cases hv
 ·rw [hv'] at hv
  have e' : g' = k := by simpa [Value.ownBlock] using hv
  subst e'
  exact got_blk_ne hx (T := e) (cs := cur) hg he hk
def RTo (w : World) (base g : Nat) (vL : Value) (es : List (Nm × RF)) (d : DkD) (w' : World) : Prop := ∃ vL' es', RDiskAt w' base g d.pw d.room vL' es' ∧ sec RF.f es' = d.fs ∧ Fr (RFoot g vL es) w w' ∧ ∀ k, RFoot g vL' es' k → RFoot g vL es k ∨ w.heap.size ≤ k
abbrev rkOf (p : PWD) (room : Int) (es : List (Nm × RF)) : DkD := ⟨p, room, sec RF.f es⟩
theorem RTo.mk' (h : RDiskAt w' base g p room vL es) (hf : Fr (RFoot g vL es) w w') : RTo w base g vL es (rkOf p room es) w' := ⟨vL, es, h, rfl, hf, fun k hk => .inl hk⟩
theorem RTo.below {w1 : World} {d : DkD} (h : RTo w base g vL es d w') (hb : Below w'.heap.size w' w1) : RTo w base g vL es d w1 := by
 obtain ⟨vL', es', h1, h2, h3, h4⟩ := h
 exact ⟨vL', es', h1.below hb, h2, h3.trans (Fr.of_below (fun _ => False) hb) (fun j hj => hj.elim), h4⟩
theorem RTo.trans {w1 w2 : World} {vL1 : Value} {es1 : List (Nm × RF)} {d : DkD} (hf : Fr (RFoot g vL es) w w1) (hi : ∀ k, RFoot g vL1 es1 k → RFoot g vL es k ∨ w.heap.size ≤ k) (h : RTo w1 base g vL1 es1 d w2) : RTo w base g vL es d w2 := by
 obtain ⟨vL', es', h1, h2, h3, h4⟩ := h
 refine ⟨vL', es', h1, h2, hf.trans h3 hi, fun k hk => ?_⟩
 rcases h4 k hk with h5 | h5
 ·exact hi k h5
 ·exact .inr (Nat.le_trans hf.size h5)
theorem RDiskAt.shape (h : RDiskAt w base g p room vL es) : ∃ A c, vL = .slice A es.length c ∧ es.length ≤ c ∧ c ≤ maxLen ∧ ∀ k, (hk : k < es.length) → ∃ b, A = some ⟨b, 0, none⟩ ∧ b < w.heap.size ∧ w.cell? ⟨b, k * 3, none⟩ = some (.string (str es[k].1)) ∧ w.cell? ⟨b, k * 3 + 1, none⟩ = some es[k].2.v ∧ w.cell? ⟨b, k * 3 + 2, none⟩ = some (.int .i64 es[k].2.f.safe) ∧
  w.frozen? ⟨b, k * 3 + 1, none⟩ = false ∧ w.frozen? ⟨b, k * 3 + 2, none⟩ = false := by
 rcases h.own.2 with ⟨hn, h0⟩ | ⟨b, cap, cur, hv, hb, hg, hc, hcm, hcs, hx⟩
 ·exact ⟨none, 0, by rw [hn, h0], by omega, by unfold maxLen; omega, fun k hk => by omega⟩
 ·refine ⟨_, cap, hv, hc, hcm, fun k hk => ⟨b, rfl, (Array.getElem?_eq_some_iff.1 hg).1, ?_, ?_, ?_, ?_, ?_⟩⟩
  ·rw [World.ownsRow.cellAt (hv ▸ h.own) (k * 3) (by omega)]
   exact rfCells_at es hk (j := 0) (by omega)
  ·rw [World.ownsRow.cellAt (hv ▸ h.own) (k * 3 + 1) (by omega)]
   exact rfCells_at es hk (j := 1) (by omega)
  ·rw [World.ownsRow.cellAt (hv ▸ h.own) (k * 3 + 2) (by omega)]
   exact rfCells_at es hk (j := 2) (by omega)
  ·exact Blk.frozen (t := 85) (cs := cur) hg _
  ·exact Blk.frozen (t := 85) (cs := cur) hg _
theorem RDiskAt.power (h : RDiskAt w base g p room vL es) {p' : PWD} (hg : w.grownBy w' (some g)) {x y : Int} (hB : Blk w' g 74 #[vL, .int .i64 room, .bool p'.off, .bool p'.armed, .int .i64 x, .int .i64 y])
  (hxy : (p'.armed = true → x = p'.acts ∧ y = p'.part) ∧ (-9223372036854775808 ≤ x ∧ x ≤ 9223372036854775807) ∧ (-9223372036854775808 ≤ y ∧ y ≤ 9223372036854775807)) (hn : p'.armed = true → 0 ≤ p'.acts) : RDiskAt w' base g p' room vL es := by
 obtain ⟨x0, y0, hb0, _⟩ := h.blk
 have hne : ∀ k, RFoot g vL es k → k ≠ g → w'.heap[k]? = w.heap[k]? := fun k hk hn => hg.block k (h.lt k hk).2 (fun e => hn (by injection e))
 exact ⟨⟨x, y, hB, hxy⟩, row_keep h.own fun k e => hne k (.inr (.inl e)) (fun e' => row_blk_ne h.own hb0 (by decide) (by rw [e, e'])),
  fun q hq => (h.got q hq).kept (fun j hj => hne j (.inr (.inr ⟨q, hq, hj⟩)) (fun e => got_blk_ne (h.got q hq) hb0 (by decide) (by rw [hj, e]))) hg.size, h.safe, h.rising, h.low, ⟨hn, h.num.2⟩⟩
theorem RDiskAt.row (h : RDiskAt w base g p room vL es) {vL' : Value} {es' : List (Nm × RF)} (hs : w.heap.size ≤ w'.heap.size) {x y : Int} (hB : Blk w' g 74 #[vL', .int .i64 room, .bool p.off, .bool p.armed, .int .i64 x, .int .i64 y])
  (hxy : (p.armed = true → x = p.acts ∧ y = p.part) ∧ (-9223372036854775808 ≤ x ∧ x ≤ 9223372036854775807) ∧ (-9223372036854775808 ≤ y ∧ y ≤ 9223372036854775807))
  (hown : w'.ownsRow base 85 3 vL' es'.length (rfCells es')) (hgot : ∀ q ∈ es', Got w' base q.2.v q.2.f.b) (hsafe : ∀ q ∈ es', q.2.f.safe ≤ q.2.f.b.length) (hr : Rising es') : RDiskAt w' base g p room vL' es' :=
 ⟨⟨x, y, hB, hxy⟩, hown, hgot, hsafe, hr, h.low, h.num⟩
theorem sec_length {α β : Type} (f : α → β) (l : List (Nm × α)) : (sec f l).length = l.length := by simp [sec]
end
end Go.Proofs.YtgeofijddhflaaaGreatDoor
set_option linter.unusedVariables false
namespace Go.Proofs.YtgeofijddhflaaaGreatDoor
open Go.RowKit Go.Maps Go.Sort Oct
theorem info_file : (Tryz.prog.info? 85).map (fun i => (i.zero, i.size, i.bytes)) = some (some (.agg #[.string ⟨#[]⟩, .slice none 0 0, .int .i64 0]), 3, 48) := by kernel_rfl
theorem blk_cells_at {w : World} {g : Nat} {t : TypeId} {cs : List Value} (h : Blk w g t cs.toArray) (j : Nat) (u : Value) (hj : cs[j]? = some u) : w.cell? ((⟨g, 0, none⟩ : Addr).add j) = some u := by
 have hadd : (⟨g, 0, none⟩ : Addr).add j = ⟨g, j, none⟩ := by unfold Addr.add; split <;> simp_all
 rw [hadd, h.cell]
 simpa using hj
def RRow (w : World) (base : Nat) (v : Value) (es : List (Nm × RF)) : Prop := w.ownsRow base 85 3 v es.length (rfCells es)
theorem RRow.nil (w : World) (base : Nat) : RRow w base (.slice none 0 0) [] := World.ownsRow_nil _ _ _ _
theorem RRow.lt {w : World} {base : Nat} {v : Value} {es : List (Nm × RF)} (h : RRow w base v es) : ∀ k, v.ownBlock = some k → base ≤ k ∧ k < w.heap.size := World.ownsRow.lt h
theorem RRow.below {w w' : World} {base : Nat} {v : Value} {es : List (Nm × RF)} (h : RRow w base v es) (hb : Below w.heap.size w w') : RRow w' base v es := row_keep h fun k hk => hb.block k (h.lt k hk).2
theorem row_mono {w : World} {base base' size n : Nat} {e : TypeId} {v : Value} {xs : List Value} (h : w.ownsRow base e size v n xs) (hb : base' ≤ base) : w.ownsRow base' e size v n xs := by
 refine ⟨h.1, ?_⟩
 rcases h.2 with hn | ⟨g', cap, cur, hv, hb', rest⟩
 ·exact .inl hn
 ·exact .inr ⟨g', cap, cur, hv, by omega, rest⟩
theorem RRow.shape {w : World} {base : Nat} {v : Value} {es : List (Nm × RF)} (h : RRow w base v es) : ∃ A c, v = .slice A es.length c := by
 rcases h.2 with ⟨hn, h0⟩ | ⟨b, cap, cur, hv, _⟩
 ·exact ⟨none, 0, by rw [hn, h0]⟩
 ·exact ⟨_, cap, hv⟩
theorem RRow.push {w wr w2 : World} {N : Nat} {v v' : Value} {l : List (Nm × RF)} {q : Nm × RF} {Ax : Option Addr} {cx : Nat} (hB : Below N w wr) (hN : N ≤ wr.heap.size) (hR : RRow wr N v l) (hv : q.2.v = .slice Ax q.2.f.b.length cx) {o : Obj}
  (hrow : w2.ownsRow N 85 3 v' (l.length + 1) (rfCells l ++ [.string (str q.1), .slice Ax q.2.f.b.length cx, .int .i64 q.2.f.safe])) (hg : (wr.alloc o).grownBy w2 v.ownBlock) : RRow w2 N v' (l ++ [q]) ∧ Below N w w2 := by
 refine ⟨?_, (hB.alloc hN o).grown hg (by simp; omega) (fun k hk => (hR.lt k hk).1)⟩
 unfold RRow
 rw [rfCells_snoc, List.length_append]
 unfold rfOne
 rw [hv]
 exact hrow
theorem asDel_rising {α : Type} {n : Nm} {l : List (Nm × α)} (h : Rising l) : Rising (asDel n l) := List.Pairwise.filter _ h
section
variable {α : Type}
theorem asIns_rising {x : Nm × α} : ∀ {d : List (Nm × α)}, Rising d → (∀ q ∈ d, q.1 ≠ x.1) → Rising (asIns x d)
 | [], _, _ => by simp [asIns, Rising]
 | y :: r, h, hne => by
  have h1 := List.pairwise_cons.1 h
  unfold asIns
  by_cases hb : bytesBefore x.1 y.1 = true
  ·rw [if_pos hb]
   refine List.pairwise_cons.2 ⟨fun q hq => ?_, h⟩
   rcases List.mem_cons.1 hq with rfl | hq
   ·exact hb
   ·exact WideShapes.bytes_trans _ _ _ hb (h1.1 q hq)
  ·rw [if_neg hb]
   refine List.pairwise_cons.2 ⟨fun q hq => ?_, asIns_rising h1.2 (fun q hq => hne q (List.mem_cons_of_mem _ hq))⟩
   rcases asIns_mem.1 hq with rfl | hq
   ·rcases WideAt.bytes_total y.1 q.1 (hne y (List.mem_cons_self ..)) with h2 | h2
    ·exact h2
    ·exact absurd h2 hb
   ·exact h1.1 q hq
theorem asPut_rising {n : Nm} {a : α} {l : List (Nm × α)} (h : Rising l) : Rising (asPut n a l) := asIns_rising (asDel_rising h) (fun q hq => (asDel_mem.1 hq).2)
end
end Go.Proofs.YtgeofijddhflaaaGreatDoor
