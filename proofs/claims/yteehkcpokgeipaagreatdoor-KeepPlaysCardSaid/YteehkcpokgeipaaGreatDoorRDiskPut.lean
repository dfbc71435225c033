/- The reference's disk: drop, put. Condition: the disk is a call's own. -/
import Derived.Test.YteehkcpokgeipaaGreatDoorDiskOp
import Derived.Test.YteehkcpokgeipaaGreatDoorKeepBwd
import Derived.BigQuiet
import Derived.Deep.QuietTactic
set_option linter.unusedVariables false
namespace Go.Proofs.YteehkcpokgeipaaGreatDoor
open Go.RowKit Go.Maps Go.Sort Oct
structure RF where
 v : Value
 f : FD
def rfOne (q : Nm × RF) : List Value := [.string (str q.1), q.2.v, .int .i64 q.2.f.safe]
def rfCells (es : List (Nm × RF)) : List Value := es.flatMap rfOne
theorem rfCells_nil : rfCells [] = [] := rfl
theorem rfCells_cons (q : Nm × RF) (es : List (Nm × RF)) : rfCells (q :: es) = rfOne q ++ rfCells es := by unfold rfCells; rw [List.flatMap_cons]
theorem rfCells_append (a b : List (Nm × RF)) : rfCells (a ++ b) = rfCells a ++ rfCells b := by unfold rfCells; rw [List.flatMap_append]
theorem rfCells_snoc (a : List (Nm × RF)) (q : Nm × RF) : rfCells (a ++ [q]) = rfCells a ++ rfOne q := by rw [rfCells_append, rfCells_cons, rfCells_nil, List.append_nil]
theorem rfCells_len (es : List (Nm × RF)) : (rfCells es).length = es.length * 3 := by
 induction es with
 | nil => rfl
 | cons q r ih => rw [rfCells_cons, List.length_append, ih]; simp [rfOne]; omega
theorem rfCells_at (es : List (Nm × RF)) {k : Nat} (hk : k < es.length) {j : Nat} (hj : j < 3) : (rfCells es)[k * 3 + j]? = (rfOne es[k])[j]? := by
 induction es generalizing k with
 | nil => simp at hk
 | cons q r ih =>
  rw [rfCells_cons]
  cases k with
  | zero => rw [List.getElem?_append_left (by simp [rfOne]; omega)]; simp
  | succ k =>
   rw [List.getElem?_append_right (by simp [rfOne]; omega)]
   have : (k + 1) * 3 + j - (rfOne q).length = k * 3 + j := by simp [rfOne]; omega
   rw [this, ih (by simpa using hk)]
   rfl
theorem rfCells_set (es : List (Nm × RF)) {k : Nat} (hk : k < es.length) {j : Nat} (hj : j < 3) (u : Value) (q : Nm × RF) (hq : rfOne q = (rfOne es[k]).set j u) : (rfCells es).set (k * 3 + j) u = rfCells (es.set k q) := by
 induction es generalizing k with
 | nil => simp at hk
 | cons x r ih =>
  cases k with
  | zero =>
   simp only [List.set_cons_zero, rfCells_cons, Nat.zero_mul, Nat.zero_add]
   rw [List.set_append, if_pos (by simp [rfOne]; omega)]
   simp only [List.getElem_cons_zero] at hq
   rw [hq]
  | succ k =>
   simp only [List.set_cons_succ, rfCells_cons]
   rw [List.set_append, if_neg (by simp [rfOne]; omega)]
   have : (k + 1) * 3 + j - (rfOne x).length = k * 3 + j := by simp [rfOne]; omega
   rw [this, ih (by simpa using hk) hq]
def RFoot (g : Nat) (vL : Value) (es : List (Nm × RF)) (k : Nat) : Prop := k = g ∨ vL.ownBlock = some k ∨ ∃ q ∈ es, q.2.v.ownBlock = some k
structure RDiskAt (w : World) (base g : Nat) (p : PWD) (room : Int) (vL : Value) (es : List (Nm × RF)) : Prop where
 blk : ∃ x y : Int, Blk w g 72 #[vL, .int .i64 room, .bool p.off, .bool p.armed, .int .i64 x, .int .i64 y] ∧ (p.armed = true → x = p.acts ∧ y = p.part) ∧ (-9223372036854775808 ≤ x ∧ x ≤ 9223372036854775807) ∧ (-9223372036854775808 ≤ y ∧ y ≤ 9223372036854775807)
 own : w.ownsRow base 128 3 vL es.length (rfCells es)
 got : ∀ q ∈ es, Got w base q.2.v q.2.f.b
 safe : ∀ q ∈ es, q.2.f.safe ≤ q.2.f.b.length
 rising : Rising es
 low : base ≤ g
 num : (p.armed = true → 0 ≤ p.acts) ∧ 0 ≤ room ∧ room ≤ 9223372036854775807
section
variable {w w' : World} {base g : Nat} {p : PWD} {room : Int} {vL : Value} {es : List (Nm × RF)}
theorem RDiskAt.glt (h : RDiskAt w base g p room vL es) : g < w.heap.size := by obtain ⟨x, y, hb, _⟩ := h.blk; exact hb.lt
theorem RDiskAt.lt (h : RDiskAt w base g p room vL es) : ∀ k, RFoot g vL es k → base ≤ k ∧ k < w.heap.size := by
 intro k hk
 rcases hk with rfl | hk | ⟨q, hq, hk⟩
 ·exact ⟨h.low, h.glt⟩
 ·exact World.ownsRow.lt h.own k hk
 ·exact ⟨(h.got q hq).row.base k hk, (h.got q hq).row.lt k hk⟩
theorem row_keep {e : TypeId} {size n : Nat} {v : Value} {xs : List Value} (h : w.ownsRow base e size v n xs) (hk : ∀ k, v.ownBlock = some k → w'.heap[k]? = w.heap[k]?) : w'.ownsRow base e size v n xs := by
 refine ⟨h.1, ?_⟩
 rcases h.2 with hn | ⟨g', cap, cur, hv, hb, hg, rest⟩
 ·exact .inl hn
 ·exact .inr ⟨g', cap, cur, hv, hb, (hk g' (by rw [hv]; rfl)).trans hg, rest⟩
theorem RDiskAt.keep (h : RDiskAt w base g p room vL es) (hs : w.heap.size ≤ w'.heap.size) (hk : ∀ k, RFoot g vL es k → w'.heap[k]? = w.heap[k]?) : RDiskAt w' base g p room vL es := by
 obtain ⟨x, y, hb, hxy⟩ := h.blk
 exact ⟨⟨x, y, (hk g (.inl rfl)).trans hb, hxy⟩, row_keep h.own fun k e => hk k (.inr (.inl e)), fun q hq => (h.got q hq).kept (fun j hj => hk j (.inr (.inr ⟨q, hq, hj⟩))) hs, h.safe, h.rising, h.low, h.num⟩
theorem RDiskAt.below (h : RDiskAt w base g p room vL es) (hb : Below w.heap.size w w') : RDiskAt w' base g p room vL es :=
 h.keep hb.size fun k hk => hb.block k (h.lt k hk).2
theorem RDiskAt.drewN_ (h : RDiskAt w base g p room vL es) (k : Nat) : RDiskAt (w.drewN k) base g p room vL es := h.keep (Nat.le_refl _) fun _ _ => rfl
theorem row_blk_ne {e T : TypeId} {size n a : Nat} {v : Value} {xs : List Value} {cs : Array Value} (h : w.ownsRow base e size v n xs) (hb : Blk w a T cs) (hT : T ≠ e) : v.ownBlock ≠ some a := fun hv => by
 rcases h.2 with ⟨hn, _⟩ | ⟨g', cap, cur, hv', _, hg, _⟩
 ·rw [hn] at hv; cases hv
 ·rw [hv'] at hv
  have e' : g' = a := by simpa [Value.ownBlock] using hv
  subst e'
  exact blk_ne hb hg hT rfl
theorem row_got_ne {e : TypeId} {base' size n : Nat} {v x : Value} {xs : List Value} {l : List UInt8} (h : w.ownsRow base e size v n xs) (hx : Got w base' x l) (he : e ≠ 5) : ∀ k, x.ownBlock = some k → v.ownBlock ≠ some k := fun k hk hv => by
 rcases h.2 with ⟨hn, _⟩ | ⟨g', cap, cur, hv', _, hg, _⟩
 ·rw [hn] at hv; cases hv
 ·rw [hv'] at hv
  have e' : g' = k := by simpa [Value.ownBlock] using hv
  subst e'
  exact got_blk_ne hx (T := e) (cs := cur) hg he hk
def RTo (w : World) (base g : Nat) (vL : Value) (es : List (Nm × RF)) (d : DkD) (w' : World) : Prop := ∃ vL' es', RDiskAt w' base g d.pw d.room vL' es' ∧ sec RF.f es' = d.fs ∧ Fr (RFoot g vL es) w w' ∧ ∀ k, RFoot g vL' es' k → RFoot g vL es k ∨ w.heap.size ≤ k
abbrev rkOf (p : PWD) (room : Int) (es : List (Nm × RF)) : DkD := ⟨p, room, sec RF.f es⟩
theorem RTo.mk' (h : RDiskAt w' base g p room vL es) (hf : Fr (RFoot g vL es) w w') : RTo w base g vL es (rkOf p room es) w' := ⟨vL, es, h, rfl, hf, fun k hk => .inl hk⟩
theorem RTo.below {w1 : World} {d : DkD} (h : RTo w base g vL es d w') (hb : Below w'.heap.size w' w1) : RTo w base g vL es d w1 := by
 obtain ⟨vL', es', h1, h2, h3, h4⟩ := h
 exact ⟨vL', es', h1.below hb, h2, h3.trans (Fr.of_below (fun _ => False) hb) (fun j hj => hj.elim), h4⟩
theorem RTo.trans {w1 w2 : World} {vL1 : Value} {es1 : List (Nm × RF)} {d : DkD} (hf : Fr (RFoot g vL es) w w1) (hi : ∀ k, RFoot g vL1 es1 k → RFoot g vL es k ∨ w.heap.size ≤ k) (h : RTo w1 base g vL1 es1 d w2) : RTo w base g vL es d w2 := by
 obtain ⟨vL', es', h1, h2, h3, h4⟩ := h
 refine ⟨vL', es', h1, h2, hf.trans h3 hi, fun k hk => ?_⟩
 rcases h4 k hk with h5 | h5
 ·exact hi k h5
 ·exact .inr (Nat.le_trans hf.size h5)
theorem RDiskAt.shape (h : RDiskAt w base g p room vL es) : ∃ A c, vL = .slice A es.length c ∧ es.length ≤ c ∧ c ≤ maxLen ∧ ∀ k, (hk : k < es.length) → ∃ b, A = some ⟨b, 0, none⟩ ∧ b < w.heap.size ∧ w.cell? ⟨b, k * 3, none⟩ = some (.string (str es[k].1)) ∧ w.cell? ⟨b, k * 3 + 1, none⟩ = some es[k].2.v ∧ w.cell? ⟨b, k * 3 + 2, none⟩ = some (.int .i64 es[k].2.f.safe) ∧
  w.frozen? ⟨b, k * 3 + 1, none⟩ = false ∧ w.frozen? ⟨b, k * 3 + 2, none⟩ = false := by
 rcases h.own.2 with ⟨hn, h0⟩ | ⟨b, cap, cur, hv, hb, hg, hc, hcm, hcs, hx⟩
 ·exact ⟨none, 0, by rw [hn, h0], by omega, by unfold maxLen; omega, fun k hk => by omega⟩
 ·refine ⟨_, cap, hv, hc, hcm, fun k hk => ⟨b, rfl, (Array.getElem?_eq_some_iff.1 hg).1, ?_, ?_, ?_, ?_, ?_⟩⟩
  ·rw [World.ownsRow.cellAt (hv ▸ h.own) (k * 3) (by omega)]
   exact rfCells_at es hk (j := 0) (by omega)
  ·rw [World.ownsRow.cellAt (hv ▸ h.own) (k * 3 + 1) (by omega)]
   exact rfCells_at es hk (j := 1) (by omega)
  ·rw [World.ownsRow.cellAt (hv ▸ h.own) (k * 3 + 2) (by omega)]
   exact rfCells_at es hk (j := 2) (by omega)
  ·exact Blk.frozen (t := 128) (cs := cur) hg _
  ·exact Blk.frozen (t := 128) (cs := cur) hg _
theorem RDiskAt.power (h : RDiskAt w base g p room vL es) {p' : PWD} (hg : w.grownBy w' (some g)) {x y : Int} (hB : Blk w' g 72 #[vL, .int .i64 room, .bool p'.off, .bool p'.armed, .int .i64 x, .int .i64 y])
  (hxy : (p'.armed = true → x = p'.acts ∧ y = p'.part) ∧ (-9223372036854775808 ≤ x ∧ x ≤ 9223372036854775807) ∧ (-9223372036854775808 ≤ y ∧ y ≤ 9223372036854775807)) (hn : p'.armed = true → 0 ≤ p'.acts) : RDiskAt w' base g p' room vL es := by
 obtain ⟨x0, y0, hb0, _⟩ := h.blk
 have hne : ∀ k, RFoot g vL es k → k ≠ g → w'.heap[k]? = w.heap[k]? := fun k hk hn => hg.block k (h.lt k hk).2 (fun e => hn (by injection e))
 exact ⟨⟨x, y, hB, hxy⟩, row_keep h.own fun k e => hne k (.inr (.inl e)) (fun e' => row_blk_ne h.own hb0 (by decide) (by rw [e, e'])),
  fun q hq => (h.got q hq).kept (fun j hj => hne j (.inr (.inr ⟨q, hq, hj⟩)) (fun e => got_blk_ne (h.got q hq) hb0 (by decide) (by rw [hj, e]))) hg.size, h.safe, h.rising, h.low, ⟨hn, h.num.2⟩⟩
theorem RDiskAt.row (h : RDiskAt w base g p room vL es) {vL' : Value} {es' : List (Nm × RF)} (hs : w.heap.size ≤ w'.heap.size) {x y : Int} (hB : Blk w' g 72 #[vL', .int .i64 room, .bool p.off, .bool p.armed, .int .i64 x, .int .i64 y])
  (hxy : (p.armed = true → x = p.acts ∧ y = p.part) ∧ (-9223372036854775808 ≤ x ∧ x ≤ 9223372036854775807) ∧ (-9223372036854775808 ≤ y ∧ y ≤ 9223372036854775807))
  (hown : w'.ownsRow base 128 3 vL' es'.length (rfCells es')) (hgot : ∀ q ∈ es', Got w' base q.2.v q.2.f.b) (hsafe : ∀ q ∈ es', q.2.f.safe ≤ q.2.f.b.length) (hr : Rising es') : RDiskAt w' base g p room vL' es' :=
 ⟨⟨x, y, hB, hxy⟩, hown, hgot, hsafe, hr, h.low, h.num⟩
theorem sec_length {α β : Type} (f : α → β) (l : List (Nm × α)) : (sec f l).length = l.length := by simp [sec]
end
end Go.Proofs.YteehkcpokgeipaaGreatDoor
set_option linter.unusedVariables false
namespace Go.Proofs.YteehkcpokgeipaaGreatDoor
open Go.RowKit Go.Maps Go.Sort Oct
theorem rblk6 {w : World} {g : Nat} {t : TypeId} {a b c d e f : Value} (h : Blk w g t #[a, b, c, d, e, f]) : (w.cell? ⟨g, 0, none⟩ = some a ∧ w.cell? ⟨g, 1, none⟩ = some b ∧ w.cell? ⟨g, 2, none⟩ = some c ∧ w.cell? ⟨g, 3, none⟩ = some d ∧ w.cell? ⟨g, 4, none⟩ = some e ∧ w.cell? ⟨g, 5, none⟩ = some f) ∧
  w.frozen? ⟨g, 0, none⟩ = false ∧ w.frozen? ⟨g, 1, none⟩ = false ∧ w.frozen? ⟨g, 2, none⟩ = false ∧ w.frozen? ⟨g, 3, none⟩ = false ∧ w.frozen? ⟨g, 4, none⟩ = false ∧ w.frozen? ⟨g, 5, none⟩ = false :=
 ⟨⟨h.cell 0, h.cell 1, h.cell 2, h.cell 3, h.cell 4, h.cell 5⟩, h.frozen 0, h.frozen 1, h.frozen 2, h.frozen 3, h.frozen 4, h.frozen 5⟩
set_option maxHeartbeats 1000000 in
theorem rmod_any (n k : Int) (hn : -9223372036854775808 ≤ n ∧ n ≤ 9223372036854775807) (hk : 1 ≤ k ∧ k ≤ 4611686018427387904) (w : World) : Calls Tryz.prog 86 #[.int .i64 n, .int .i64 k] w fun e w' => e = .returned (.int .i64 (n % k)) ∧ w = w' := by
 obtain ⟨hk1, hk2⟩ := hk
 have h1 : -k < n.tmod k := by have := Int.lt_tmod_of_pos n (show 0 < k by omega); omega
 have h2 : n.tmod k < k := Int.tmod_lt_of_pos n (by omega)
 have h5 := Int.mul_tdiv_add_tmod n k
 have h6 : n.tmod k = n + (-(n.tdiv k)) * k := by rw [Int.neg_mul, Int.mul_comm]; omega
 have h7 : n.tmod k % k = n % k := by rw [h6, Int.add_mul_emod_self_right]
 have hk0 : ¬ k = 0 := by omega
 by_cases hneg : n.tmod k < 0
 ·have h3 : n.tmod k + k = n % k := by
   rw [← h7, ← Int.add_emod_right, Int.emod_eq_of_lt (by omega) (by omega)]
  have H3 := Lib.hid h3
  clear h3 hn h5 h6 h7
  go_enter Tryz.func86, Tryz.ntmps86
  go_wp2
  go_ret
  exact ⟨by rw [← H3.out]; rfl, rfl⟩
 ·have h3 : n.tmod k = n % k := by
   rw [← h7, Int.emod_eq_of_lt (by omega) (by omega)]
  have H3 := Lib.hid h3
  clear h3 hn h5 h6 h7
  go_enter Tryz.func86, Tryz.ntmps86
  go_wp2
  go_ret
  exact ⟨by rw [← H3.out]; rfl, rfl⟩
theorem rend_any (b : Bool) (w : World) : Calls Tryz.prog 90 #[.bool b] w fun e w' => e = .returned (.int .i64 (if b = true then 50 else 0)) ∧ w = w' := by
 cases b
 ·go_enter Tryz.func90, Tryz.ntmps90
  go_wp2
  go_ret
  exact ⟨rfl, rfl⟩
 ·go_enter Tryz.func90, Tryz.ntmps90
  go_wp2
  go_ret
  exact ⟨rfl, rfl⟩
def rAt {α : Type} (n : Nm) (l : List (Nm × α)) : Int := match l.findIdx? (fun q => q.1 == n) with | some k => (k : Int) | none => -1
theorem rAt_none {α : Type} {n : Nm} {l : List (Nm × α)} (h : ∀ q ∈ l, q.1 ≠ n) : rAt n l = -1 := by
 unfold rAt
 have : l.findIdx? (fun q => q.1 == n) = none := by
  rw [List.findIdx?_eq_none_iff]
  intro q hq
  simpa using h q hq
 rw [this]
theorem rAt_some {α : Type} {n : Nm} {l : List (Nm × α)} {k : Nat} (hk : k < l.length) (he : l[k].1 = n) (h : ∀ q ∈ l.take k, q.1 ≠ n) : rAt n l = (k : Int) := by
 unfold rAt
 have : l.findIdx? (fun q => q.1 == n) = some k := by
  rw [List.findIdx?_eq_some_iff_getElem]
  refine ⟨hk, by simp [he], fun j hj => ?_⟩
  have := h l[j] (List.mem_take_iff_getElem.2 ⟨j, by omega, rfl⟩)
  simpa using this
 rw [this]
theorem rAt_of_get {α : Type} {n : Nm} {l : List (Nm × α)} {a : α} (h : asGet n l = some a) : ∃ k, ∃ hk : k < l.length, rAt n l = (k : Int) ∧ l[k] = (n, a) := by
 unfold asGet at h
 rw [Option.map_eq_some_iff] at h
 obtain ⟨p, hp, rfl⟩ := h
 rw [List.find?_eq_some_iff_getElem] at hp
 obtain ⟨h1, k, hk, he, hn⟩ := hp
 have h1' : p.1 = n := by simpa using h1
 refine ⟨k, hk, rAt_some hk (by rw [he, h1']) (fun q hq => ?_), by rw [he, ← h1']⟩
 obtain ⟨j, hj, rfl⟩ := List.mem_take_iff_getElem.1 hq
 have := hn j (by omega)
 simpa using this
theorem rAt_of_none {α : Type} {n : Nm} {l : List (Nm × α)} (h : asGet n l = none) : rAt n l = -1 := by
 refine rAt_none fun q hq e => ?_
 unfold asGet at h
 simp only [Option.map_eq_none_iff, List.find?_eq_none] at h
 have := h q hq
 simp [e] at this
set_option maxHeartbeats 1000000 in
theorem rat_any {w : World} {base g : Nat} {p : PWD} {room : Int} {vL : Value} {es : List (Nm × RF)} (h : RDiskAt w base g p room vL es) (n : Nm) (hl : es.length ≤ 140737488351232) :
  Calls Tryz.prog 88 #[.pointer (some ⟨g, 0, none⟩), .string (str n)] w fun e w' => e = .returned (.int .i64 (rAt n es)) ∧ w = w' := by
 obtain ⟨x, y, hb, _⟩ := h.blk
 obtain ⟨⟨c0, c1, c2, c3, c4, c5⟩, _⟩ := rblk6 hb
 obtain ⟨A, c, rfl, hlc, hcm, hat⟩ := h.shape
 have HAT := Lib.hid hat
 clear hat hb h c1 c2 c3 c4 c5
 go_enter Tryz.func88, Tryz.ntmps88
 go_wp2_with fail
 go_loopw [5] (fun i wr => ∃ k : Nat, k ≤ es.length ∧ i = .int .i64 k ∧ Hid (∀ q ∈ es.take k, q.1 ≠ n) ∧ Hid (w = wr)) (fun i _ => es.length - (intOf i).toNat)
 case atStart => exact ⟨0, by omega, rfl, Lib.hid (by simp), Lib.hid rfl⟩
 case round =>
  obtain ⟨k, hk, rfl, HN, HW⟩ := hrel
  obtain rfl := HW.out
  by_cases hlt : k < es.length
  ·obtain ⟨b, rfl, hbl, q0, q1, q2, _⟩ := HAT.out k hlt
   by_cases he : es[k].1 = n
   ·have HR := Lib.hid (rAt_some hlt he HN.out)
    rw [he] at q0
    clear he
    go_wp2_with fail
    go_ret
    exact ⟨by rw [HR.out]; rfl, rfl⟩
   ·have hb1 : ((str es[k].1).toList == (str n).toList) = false := by rw [str_beq]; exact decide_eq_false he
    have HN2 : Hid (∀ q ∈ es.take (k + 1), q.1 ≠ n) := Lib.hid (fun q hq => by
     rw [List.take_succ_eq_append_getElem hlt] at hq
     rcases List.mem_append.1 hq with hq | hq
     ·exact HN.out q hq
     ·rw [List.mem_singleton.1 hq]; exact he)
    generalize es[k].1 = nm at q0 hb1
    clear he
    go_wp2_with fail
    go_roundw
    case rel => exact ⟨k + 1, by omega, by go_num, HN2, Lib.hid trivial⟩
    case measure => simp [intOf]; omega
  ·have HR : Hid (rAt n es = -1) := Lib.hid (rAt_none fun q hq => HN.out q (by rw [List.take_of_length_le (by omega)]; exact hq))
   go_wp2_with fail
   go_ret
   exact ⟨by rw [HR.out]; rfl, rfl⟩
set_option maxHeartbeats 1000000 in
theorem rgoes_any {w : World} {base g : Nat} {p : PWD} {room : Int} {vL : Value} {es : List (Nm × RF)} (h : RDiskAt w base g p room vL es) :
  Calls Tryz.prog 87 #[.pointer (some ⟨g, 0, none⟩)] w fun e w' => e = .returned (.bool p.cut.1) ∧ RDiskAt w' base g p.cut.2.2 room vL es ∧ Fr (RFoot g vL es) w w' ∧ w'.heap.size = w.heap.size := by
 obtain ⟨x, y, hb, hxy, hx, hy⟩ := h.blk
 obtain ⟨⟨c0, c1, c2, c3, c4, c5⟩, f0, f1, f2, f3, f4, f5⟩ := rblk6 hb
 have H := Lib.hid h
 have HB := Lib.hid hb
 have HY := Lib.hid hy
 have hn := h.num.1
 obtain ⟨off, armed, acts, part⟩ := p
 simp only at c2 c3 hxy hn
 clear h hb hy
 cases armed with
 | false =>
  clear hxy hn
  go_enter Tryz.func87, Tryz.ntmps87
  go_wp2_with fail
  go_ret
  exact ⟨rfl, H.out, Fr.refl _ _, rfl⟩
 | true =>
  obtain ⟨rfl, rfl⟩ := hxy rfl
  have hn0 := hn rfl
  clear hxy hn
  by_cases hp : 0 < x
  ·have hg1 := grown_setCell w g 4 (.int .i64 (x - 1))
   have e : PWD.cut ⟨off, true, x, y⟩ = (false, 0, ⟨off, true, x - 1, y⟩) := by simp [PWD.cut, hp]
   have HD : Hid (RDiskAt (w.setCell ⟨g, 4, none⟩ (.int .i64 (x - 1))) base g ⟨off, true, x - 1, y⟩ room vL es) := Lib.hid (H.out.power hg1 (x := x - 1) (y := y) (Blk.set_ HB.out 4 _) ⟨fun _ => ⟨rfl, rfl⟩, ⟨by omega, by omega⟩, HY.out⟩ (fun _ => by show 0 ≤ x - 1; omega))
   have HF : Hid (Fr (RFoot g vL es) w (w.setCell ⟨g, 4, none⟩ (.int .i64 (x - 1)))) := Lib.hid (Fr.of_grown hg1 (fun k e => by injection e with e; exact .inl e.symm))
   rw [e]
   have hx0 : ¬ x = 0 := by omega
   clear hg1 e
   go_enter Tryz.func87, Tryz.ntmps87
   go_wp2_with fail
   go_ret
   exact ⟨rfl, HD.out, HF.out, by simp⟩
  ·obtain rfl : x = 0 := by omega
   have hg1 := grown_then (grown_setCell w g 3 (.bool false)) (grown_setCell (w.setCell ⟨g, 3, none⟩ (.bool false)) g 2 (.bool true)) (.inl rfl)
   have e : PWD.cut ⟨off, true, 0, y⟩ = (true, y, ⟨true, false, 0, y⟩) := by simp [PWD.cut]
   have HD : Hid (RDiskAt ((w.setCell ⟨g, 3, none⟩ (.bool false)).setCell ⟨g, 2, none⟩ (.bool true)) base g ⟨true, false, 0, y⟩ room vL es) := Lib.hid (H.out.power hg1 (x := 0) (y := y) (Blk.set_ (Blk.set_ HB.out 3 _) 2 _) ⟨fun h => (by cases h), ⟨by omega, by omega⟩, HY.out⟩ (fun h => by cases h))
   have HF : Hid (Fr (RFoot g vL es) w ((w.setCell ⟨g, 3, none⟩ (.bool false)).setCell ⟨g, 2, none⟩ (.bool true))) := Lib.hid (Fr.of_grown hg1 (fun k e => by injection e with e; exact .inl e.symm))
   rw [e]
   clear hg1 e
   go_enter Tryz.func87, Tryz.ntmps87
   go_wp2_with fail
   go_ret
   exact ⟨rfl, HD.out, HF.out, by simp⟩
theorem sizes_take_le (l : List (Nm × FD)) (k : Nat) : sizes (l.take k) ≤ sizes l := by
 induction l generalizing k with
 | nil => simp
 | cons q r ih =>
  cases k with
  | zero => simp only [List.take_zero, sizes]; have := sizes_nonneg r; omega
  | succ k => simp only [List.take_succ_cons, sizes]; have := ih k; omega
theorem sizes_append (a b : List (Nm × FD)) : sizes (a ++ b) = sizes a + sizes b := by
 induction a with
 | nil => simp [sizes]
 | cons q r ih => simp only [List.cons_append, sizes, ih]; omega
def rsz (es : List (Nm × RF)) (k : Nat) : Int := sizes (sec RF.f (es.take k))
theorem rsz_zero (es : List (Nm × RF)) : rsz es 0 = 0 := by simp [rsz, sizes]
theorem rsz_all (es : List (Nm × RF)) {k : Nat} (h : es.length ≤ k) : rsz es k = sizes (sec RF.f es) := by unfold rsz; rw [List.take_of_length_le h]
theorem rsz_step {es : List (Nm × RF)} {k : Nat} (hk : k < es.length) : rsz es (k + 1) = rsz es k + (es[k].2.f.b.length : Int) := by
 unfold rsz
 rw [List.take_succ_eq_append_getElem hk]
 simp only [sec, List.map_append, sizes_append]
 simp [sizes]
theorem rsz_nonneg (es : List (Nm × RF)) (k : Nat) : 0 ≤ rsz es k := sizes_nonneg _
theorem rsz_le (es : List (Nm × RF)) (k : Nat) : rsz es k ≤ sizes (sec RF.f es) := by
 unfold rsz
 simp only [sec, List.map_take]
 exact sizes_take_le _ _
set_option maxHeartbeats 1000000 in
theorem rfree_any {w : World} {base g : Nat} {p : PWD} {room : Int} {vL : Value} {es : List (Nm × RF)} (h : RDiskAt w base g p room vL es) (hsz : sizes (sec RF.f es) ≤ 4611686018427387904) (hl : es.length ≤ 140737488351232) :
  Calls Tryz.prog 75 #[.pointer (some ⟨g, 0, none⟩)] w fun e w' => e = .returned (.int .i64 (room - sizes (sec RF.f es))) ∧ w = w' := by
 obtain ⟨x, y, hb, _⟩ := h.blk
 obtain ⟨⟨c0, c1, c2, c3, c4, c5⟩, _⟩ := rblk6 hb
 obtain ⟨A, c, rfl, hlc, hcm, hat⟩ := h.shape
 obtain ⟨_, hr0, hr1⟩ := h.num
 have HAT := Lib.hid hat
 have HG := Lib.hid h.got
 clear hat hb h c2 c3 c4 c5
 go_enter Tryz.func75, Tryz.ntmps75
 go_wp2_with fail
 go_loopw [3, 4] (fun n i wr => ∃ k : Nat, k ≤ es.length ∧ i = .int .i64 k ∧ n = .int .i64 (room - rsz es k) ∧ Hid (w = wr)) (fun _ i _ => es.length - (intOf i).toNat)
 case atStart => exact ⟨0, by omega, rfl, by rw [rsz_zero]; simp, Lib.hid rfl⟩
 case round =>
  obtain ⟨k, hk, rfl, rfl, HW⟩ := hrel
  obtain rfl := HW.out
  by_cases hlt : k < es.length
  ·obtain ⟨b, rfl, hbl, q0, q1, q2, _⟩ := HAT.out k hlt
   obtain ⟨A1, c1', hv, _, _, _⟩ := (HG.out es[k] (List.getElem_mem hlt)).shape
   rw [hv] at q1
   have HS := Lib.hid (rsz_step hlt)
   have h1 := rsz_nonneg es k
   have h2 := rsz_le es k
   have h3 := rsz_le es (k + 1)
   have h4 : (es[k].2.f.b.length : Int) ≤ 4611686018427387904 := by have := HS.out; omega
   generalize es[k].2.f.b.length = nb at q1 HS h4
   clear hv q0 q2 h3
   go_wp2_with fail
   go_roundw
   case rel => exact ⟨k + 1, by omega, by go_num, by have e := HS.out; simp only [Value.int.injEq, true_and]; omega, Lib.hid trivial⟩
   case measure => simp [intOf]; omega
  ·have HR : Hid (rsz es k = sizes (sec RF.f es)) := Lib.hid (rsz_all es (by omega))
   have h1 := rsz_nonneg es k
   have h2 := rsz_le es k
   go_wp2_with fail
   go_ret
   exact ⟨by rw [← HR.out]; rfl, rfl⟩
set_option maxHeartbeats 1000000 in
theorem rnew_any (room : Int) (hr : -9223372036854775808 ≤ room ∧ room ≤ 9223372036854775807) (w : World) :
  Calls Tryz.prog 9 #[.int .i64 room] w fun e w' => e = .returned (.pointer (some ⟨w.heap.size, 0, none⟩)) ∧ RDiskAt w' w.heap.size w.heap.size ⟨false, false, 0, 0⟩ (max room 0) (.slice none 0 0) [] ∧ Below w.heap.size w w' := by
 have hfin : ∀ r : Int, 0 ≤ r → r ≤ 9223372036854775807 → RDiskAt (w.alloc (.cells #[.slice none 0 0, .int .i64 r, .bool false, .bool false, .int .i64 0, .int .i64 0] 72)) w.heap.size w.heap.size ⟨false, false, 0, 0⟩ r (.slice none 0 0) [] := fun r h0 h1 =>
  ⟨⟨0, 0, Blk.new w 72 _, (fun h => by cases h), by decide, by decide⟩, World.ownsRow_nil _ _ _ _, (fun q hq => by cases hq), (fun q hq => by cases hq), List.Pairwise.nil, Nat.le_refl _, (fun h => by cases h), h0, h1⟩
 have HF := Lib.hid hfin
 have HB : ∀ r : Int, Hid (Below w.heap.size w (w.alloc (.cells #[.slice none 0 0, .int .i64 r, .bool false, .bool false, .int .i64 0, .int .i64 0] 72))) := fun r => Lib.hid ((Below.refl _ w).alloc (Nat.le_refl _) _)
 have HR := Lib.hid hr
 clear hr hfin
 rcases Int.lt_or_le room 0 with h0 | h0
 ·have e : max room 0 = 0 := by omega
  rw [e]
  have HB0 := HB 0
  clear HB e
  go_enter Tryz.func9, Tryz.ntmps9
  go_wp2
  go_ret
  exact ⟨rfl, HF.out 0 (Int.le_refl _) (by omega), HB0.out⟩
 ·have e : max room 0 = room := by omega
  rw [e]
  have HB0 := HB room
  have h1 := HR.out.2
  clear HB e
  go_enter Tryz.func9, Tryz.ntmps9
  go_wp2
  go_ret
  exact ⟨rfl, HF.out room h0 h1, HB0.out⟩
def PWD.arm (p : PWD) (a b : Int) : PWD := ⟨p.off, decide (0 ≤ a), a, b⟩
set_option maxHeartbeats 1000000 in
theorem rarm_any {w : World} {base g : Nat} {p : PWD} {room : Int} {vL : Value} {es : List (Nm × RF)} (h : RDiskAt w base g p room vL es) (a b : Int) (ha : -9223372036854775808 ≤ a ∧ a ≤ 9223372036854775807) (hb' : -9223372036854775808 ≤ b ∧ b ≤ 9223372036854775807) :
  Calls Tryz.prog 38 #[.pointer (some ⟨g, 0, none⟩), .int .i64 a, .int .i64 b] w fun e w' => (∃ v, e = .returned v) ∧ RDiskAt w' base g (p.arm a b) room vL es ∧ Fr (RFoot g vL es) w w' := by
 obtain ⟨x, y, hb, hxy, hx, hy⟩ := h.blk
 obtain ⟨⟨c0, c1, c2, c3, c4, c5⟩, f0, f1, f2, f3, f4, f5⟩ := rblk6 hb
 obtain ⟨w3, hw3⟩ : ∃ w3, w3 = (((w.setCell ⟨g, 3, none⟩ (.bool (decide (0 ≤ a)))).setCell ⟨g, 4, none⟩ (.int .i64 a)).setCell ⟨g, 5, none⟩ (.int .i64 b)) := ⟨_, rfl⟩
 have hg1 : w.grownBy w3 (some g) := by rw [hw3]; exact grown_then (grown_then (grown_setCell w g 3 _) (grown_setCell _ g 4 _) (.inl rfl)) (grown_setCell _ g 5 _) (.inl rfl)
 have HD : Hid (RDiskAt w3 base g (p.arm a b) room vL es) := Lib.hid (h.power hg1 (x := a) (y := b) (by rw [hw3]; exact Blk.set_ (Blk.set_ (Blk.set_ hb 3 _) 4 _) 5 _) ⟨fun _ => ⟨rfl, rfl⟩, ha, hb'⟩ (fun h => by simpa [PWD.arm] using h))
 have HF : Hid (Fr (RFoot g vL es) w w3) := Lib.hid (Fr.of_grown hg1 (fun k e => by injection e with e; exact .inl e.symm))
 have HA := Lib.hid ha
 have HB := Lib.hid hb'
 have HW := Lib.hid hw3
 clear h hb hxy hx hy hg1 ha hb' hw3
 go_enter Tryz.func38, Tryz.ntmps38
 go_wp2_with fail
 rw [← HW.out]
 go_end0
 exact ⟨⟨_, rfl⟩, HD.out, HF.out⟩
end Go.Proofs.YteehkcpokgeipaaGreatDoor
set_option linter.unusedVariables false
namespace Go.Proofs.YteehkcpokgeipaaGreatDoor
open Go.RowKit Go.Maps Go.Sort Oct
theorem info_file : (Tryz.prog.info? 128).map (fun i => (i.zero, i.size, i.bytes)) = some (some (.agg #[.string ⟨#[]⟩, .slice none 0 0, .int .i64 0]), 3, 48) := by kernel_rfl
theorem wpList_append_rows {P : Program} {w : World} {ops : Array Oper} {rest : List Oper} {o : Oper} {a : Act} {Q : Exit → Act → World → Prop} (hgd : o.guard = none) (s x : Operand) (t : TypeId)
  (ho : o.op = .call { callee := .builtin .append, args := #[s, x], argTypes := #[t, t] })
  (base : Nat) (e : TypeId) (z : Value) (size bytes : Nat) (ht : P.underlying t = some (.slice e)) (hinfo : (P.info? e).map (fun i => (i.zero, i.size, i.bytes)) = some (some z, size, bytes)) (hzs : z.cells.size = size) (hsz : 0 < size)
  (v : Value) (n : Nat) (xs : List Value) (hs : a.eval s = v) (hown : w.ownsRow base e size v n xs)
  (ad : Addr) (m c : Nat) (news : List Value) (hx : a.eval x = .slice (some ad) m c) (hl : news.length = m * size) (hnews : ∀ j u, news[j]? = some u → w.cell? (ad.add j) = some u) (h1 : ∀ u ∈ news, u.oneCell' = true)
  (h63 : n + m ≤ maxLen) (hbytes : (n + m) * bytes ≤ 140737488355328) (hbase : base ≤ w.heap.size)
  (h : ∀ v' w', w'.ownsRow base e size v' (n + m) (xs ++ news) → w.grownBy w' v.ownBlock → Fresh v' v.ownBlock w.heap.size → wpList P ops Q rest (a.put o.dst v') w') : wpList P ops Q (o :: rest) a w :=
 wpList_plain hgd fun _ hK => wp_append_size s x t ho base e z size bytes ht hinfo hzs hsz v n xs hs hown ad m c news hx hl hnews h1 h63 hbytes hbase fun v' w' h2 h3 h4 => hK _ _ (h v' w' h2 h3 h4)
theorem blk_cells_at {w : World} {g : Nat} {t : TypeId} {cs : List Value} (h : Blk w g t cs.toArray) (j : Nat) (u : Value) (hj : cs[j]? = some u) : w.cell? ((⟨g, 0, none⟩ : Addr).add j) = some u := by
 have hadd : (⟨g, 0, none⟩ : Addr).add j = ⟨g, j, none⟩ := by unfold Addr.add; split <;> simp_all
 rw [hadd, h.cell]
 simpa using hj
def RRow (w : World) (base : Nat) (v : Value) (es : List (Nm × RF)) : Prop := w.ownsRow base 128 3 v es.length (rfCells es)
theorem RRow.nil (w : World) (base : Nat) : RRow w base (.slice none 0 0) [] := World.ownsRow_nil _ _ _ _
theorem RRow.lt {w : World} {base : Nat} {v : Value} {es : List (Nm × RF)} (h : RRow w base v es) : ∀ k, v.ownBlock = some k → base ≤ k ∧ k < w.heap.size := World.ownsRow.lt h
theorem RRow.below {w w' : World} {base : Nat} {v : Value} {es : List (Nm × RF)} (h : RRow w base v es) (hb : Below w.heap.size w w') : RRow w' base v es := row_keep h fun k hk => hb.block k (h.lt k hk).2
theorem row_mono {w : World} {base base' size n : Nat} {e : TypeId} {v : Value} {xs : List Value} (h : w.ownsRow base e size v n xs) (hb : base' ≤ base) : w.ownsRow base' e size v n xs := by
 refine ⟨h.1, ?_⟩
 rcases h.2 with hn | ⟨g', cap, cur, hv, hb', rest⟩
 ·exact .inl hn
 ·exact .inr ⟨g', cap, cur, hv, by omega, rest⟩
theorem RRow.shape {w : World} {base : Nat} {v : Value} {es : List (Nm × RF)} (h : RRow w base v es) : ∃ A c, v = .slice A es.length c := by
 rcases h.2 with ⟨hn, h0⟩ | ⟨b, cap, cur, hv, _⟩
 ·exact ⟨none, 0, by rw [hn, h0]⟩
 ·exact ⟨_, cap, hv⟩
theorem RRow.push {w wr w2 : World} {N : Nat} {v v' : Value} {l : List (Nm × RF)} {q : Nm × RF} {Ax : Option Addr} {cx : Nat} (hB : Below N w wr) (hN : N ≤ wr.heap.size) (hR : RRow wr N v l) (hv : q.2.v = .slice Ax q.2.f.b.length cx) {o : Obj}
  (hrow : w2.ownsRow N 128 3 v' (l.length + 1) (rfCells l ++ [.string (str q.1), .slice Ax q.2.f.b.length cx, .int .i64 q.2.f.safe])) (hg : (wr.alloc o).grownBy w2 v.ownBlock) : RRow w2 N v' (l ++ [q]) ∧ Below N w w2 := by
 refine ⟨?_, (hB.alloc hN o).grown hg (by simp; omega) (fun k hk => (hR.lt k hk).1)⟩
 unfold RRow
 rw [rfCells_snoc, List.length_append]
 unfold rfOne
 rw [hv]
 exact hrow
section
variable {w w' : World} {base g : Nat} {p : PWD} {room : Int} {vL : Value} {es : List (Nm × RF)}
theorem RDiskAt.setL (h : RDiskAt w base g p room vL es) {wr : World} (hb : Below w.heap.size w wr) {out : Value} {es' : List (Nm × RF)} (hrow : RRow wr w.heap.size out es') (hgot : ∀ q ∈ es', Got w base q.2.v q.2.f.b) (hsafe : ∀ q ∈ es', q.2.f.safe ≤ q.2.f.b.length) (hr : Rising es') :
  RDiskAt (wr.setCell ⟨g, 0, none⟩ out) base g p room out es' ∧ Fr (fun k => k = g) w (wr.setCell ⟨g, 0, none⟩ out) := by
 obtain ⟨x, y, hB, hxy⟩ := h.blk
 have hbw : base ≤ w.heap.size := by have := h.glt; have := h.low; omega
 have hB1 : Blk wr g 72 _ := (hb.block g h.glt).trans hB
 have hne : ∀ k, k ≠ g → (wr.setCell ⟨g, 0, none⟩ out).heap[k]? = wr.heap[k]? := fun k hk => Below.heap_setCell wr ⟨g, 0, none⟩ out k (by simpa using hk)
 have hsz : (wr.setCell ⟨g, 0, none⟩ out).heap.size = wr.heap.size := by simp
 refine ⟨h.row (by rw [hsz]; exact hb.size) (x := x) (y := y) (Blk.set_ hB1 0 out) hxy ?_ (fun q hq => ?_) hsafe hr, ?_⟩
 ·refine row_mono (row_keep hrow fun k hk => hne k (fun e => ?_)) hbw
  have := (hrow.lt k hk).1
  have := h.glt
  omega
 ·refine ((hgot q hq).below hb (Nat.le_refl _)).kept (fun k hk => hne k (fun e => got_blk_ne (hgot q hq) hB (by decide) (by rw [hk, e]))) (by rw [hsz]; exact Nat.le_refl _)
 ·exact (Fr.of_below (fun k => k = g) hb).trans (mine' := fun k => k = g) (Fr.of_grown (grown_setCell wr g 0 out) (fun k e => by injection e with e; exact e.symm)) (fun j hj => .inl hj)
end
theorem asDel_take_step {α : Type} (n : Nm) (l : List (Nm × α)) {k : Nat} (hk : k < l.length) : asDel n (l.take (k + 1)) = asDel n (l.take k) ++ (if l[k].1 = n then [] else [l[k]]) := by
 rw [List.take_succ_eq_append_getElem hk]
 unfold asDel
 rw [List.filter_append]
 by_cases h : l[k].1 = n <;> simp [h]
theorem asDel_length_le {α : Type} (n : Nm) (l : List (Nm × α)) : (asDel n l).length ≤ l.length := List.length_filter_le _ _
theorem asDel_rising {α : Type} {n : Nm} {l : List (Nm × α)} (h : Rising l) : Rising (asDel n l) := List.Pairwise.filter _ h
set_option maxHeartbeats 2000000 in
theorem rdrop_any {w : World} {base g : Nat} {p : PWD} {room : Int} {vL : Value} {es : List (Nm × RF)} (h : RDiskAt w base g p room vL es) (n : Nm) (hl : es.length ≤ 1099511627776) :
  Calls Tryz.prog 92 #[.pointer (some ⟨g, 0, none⟩), .string (str n)] w fun e w' => (∃ v, e = .returned v) ∧ ∃ vL', RDiskAt w' base g p room vL' (asDel n es) ∧ Fr (fun k => k = g) w w' ∧ (∀ k, RFoot g vL' (asDel n es) k → RFoot g vL es k ∨ w.heap.size ≤ k) := by
 obtain ⟨x, y, hb, _⟩ := h.blk
 have HB0 := Lib.hid hb
 obtain ⟨A, c, hvL, hlc, hcm, hat⟩ := h.shape
 have HAT := Lib.hid hat
 have H := Lib.hid h
 have hgl := h.glt
 have HBW : Hid (base ≤ w.heap.size) := Lib.hid (by have := h.low; omega)
 clear hat hb h
 subst hvL
 go_enter Tryz.func92, Tryz.ntmps92
 go_wp2_with fail
 go_loopw [4, 5] (fun o i wr => ∃ k : Nat, k ≤ es.length ∧ i = .int .i64 k ∧ Hid (RRow wr w.heap.size o (asDel n (es.take k))) ∧ Hid (Below w.heap.size w wr)) (fun _ i _ => es.length - (intOf i).toNat)
 case atStart => exact ⟨0, by omega, rfl, Lib.hid (RRow.nil _ _), Lib.hid (Below.refl _ _)⟩
 case round =>
  obtain ⟨k, hk, rfl, HR, HB⟩ := hrel
  have c0 : wr.cell? ⟨g, 0, none⟩ = some (.slice A es.length c) := (show Blk wr g 72 _ from (HB.out.block g hgl).trans HB0.out).cell 0
  by_cases hlt : k < es.length
  ·obtain ⟨b, rfl, hbl, q0, q1, q2, _⟩ := HAT.out k hlt
   have q0' := HB.out.cell (p := ⟨b, k * 3, none⟩) hbl
   have q1' := HB.out.cell (p := ⟨b, k * 3 + 1, none⟩) hbl
   have q2' := HB.out.cell (p := ⟨b, k * 3 + 2, none⟩) hbl
   rw [q0] at q0'
   rw [q1] at q1'
   rw [q2] at q2'
   have hstep := asDel_take_step n es hlt
   have hdl : (asDel n (es.take k)).length ≤ k := by have := asDel_length_le n (es.take k); rw [List.length_take] at this; omega
   by_cases he : es[k].1 = n
   ·rw [if_pos he, List.append_nil] at hstep
    have HS := Lib.hid hstep
    have hb1 : ((str es[k].1).toList == (str n).toList) = true := by rw [str_beq]; exact decide_eq_true he
    generalize es[k].1 = nm at q0' hb1
    clear he hstep q0 q1 q2 q1' q2'
    go_wp2_with fail
    go_roundw
    case rel => exact ⟨k + 1, by omega, by go_num, Lib.hid (by rw [HS.out]; exact HR.out), HB⟩
    case measure => simp [intOf]; omega
   ·rw [if_neg he] at hstep
    have HS := Lib.hid hstep
    have hb1 : ((str es[k].1).toList == (str n).toList) = false := by rw [str_beq]; exact decide_eq_false he
    obtain ⟨Ax, cx, hv, _, _, _⟩ := (H.out.got es[k] (List.getElem_mem hlt)).shape
    obtain ⟨q, hq⟩ : ∃ q, q = es[k] := ⟨_, rfl⟩
    rw [← hq] at q0' q1' q2' hb1 hv HS
    rw [hv] at q1'
    have HV := Lib.hid hv
    have HL : Hid (es.length ≤ 1099511627776) := Lib.hid hl
    obtain ⟨qn, qv, qb, qs⟩ := q
    simp only at q0' q1' q2' hb1
    clear he hstep q0 q1 q2 hq hv
    go_wp2_with (at_builtin; refine wpList_append_rows rfl (.tmp 25) (.tmp 33) 70 rfl w.heap.size 128 (.agg #[.string ⟨#[]⟩, .slice none 0 0, .int .i64 0]) 3 48 Tryz.underlying70 info_file rfl (by decide) _ (asDel n (es.take k)).length _ rfl (HR.out.below ((Below.refl _ wr).alloc (Nat.le_refl _) _)) ⟨wr.heap.size, 0, none⟩ 1 1 [.string (str qn), .slice Ax qb.length cx, .int .i64 qs] rfl rfl (blk_cells_at (Blk.new wr 128 _)) (by simp [Value.oneCell']) (by have := HL.out; unfold maxLen; omega) (by have := HL.out; omega) (by have := HB.out.size; simp; omega) ?_; intro v' w2 hrow hg2 _)
    obtain ⟨r1, r2⟩ := RRow.push (q := (qn, ⟨qv, ⟨qb, qs⟩⟩)) HB.out HB.out.size HR.out HV.out hrow hg2
    rw [← HS.out] at r1
    have HR2 := Lib.hid r1
    have HB2 := Lib.hid r2
    clear r1 r2 hrow hg2
    go_roundw
    case rel => exact ⟨k + 1, by omega, by go_num, HR2, HB2⟩
    case measure => simp [intOf]; omega
  ·have f0 : wr.frozen? ⟨g, 0, none⟩ = false := (show Blk wr g 72 _ from (HB.out.block g hgl).trans HB0.out).frozen 0
   have e : es.take k = es := List.take_of_length_le (by omega)
   have HF := Lib.hid (H.out.setL HB.out (by rw [← e]; exact HR.out) (fun q hq => H.out.got q (asDel_mem.1 hq).1) (fun q hq => H.out.safe q (asDel_mem.1 hq).1) (asDel_rising H.out.rising))
   obtain ⟨Ao, co, hu4⟩ := HR.out.shape
   have HN : Hid (∀ k, u4.ownBlock = some k → w.heap.size ≤ k) := Lib.hid (fun k hk => (HR.out.lt k hk).1)
   have hgw : g < wr.heap.size := by have := HB.out.size; omega
   subst hu4
   clear e
   go_wp2_with fail
   go_end0
   refine ⟨⟨_, rfl⟩, _, HF.out.1, HF.out.2, fun k hk => ?_⟩
   rcases hk with rfl | hk | ⟨q, hq, hk⟩
   ·exact .inl (.inl rfl)
   ·exact .inr (HN.out k hk)
   ·exact .inl (.inr (.inr ⟨q, (asDel_mem.1 hq).1, hk⟩))
theorem less_before : ∀ a b : List UInt8, Op.bytesLess a b = bytesBefore a b
 | [], [] => rfl
 | _ :: _, [] => rfl
 | [], _ :: _ => rfl
 | a :: x, b :: y => by simp only [Op.bytesLess, bytesBefore, less_before x y]
theorem str_gtr {a b : Nm} (h : a ≠ b) : (!(Op.bytesLess (str a).toList (str b).toList || (str a).toList == (str b).toList)) = bytesBefore b a := by
 rw [str_beq, str_toList, str_toList, less_before, decide_eq_false h, Bool.or_false]
 cases h1 : bytesBefore a b with
 | true =>
  have : bytesBefore b a = false := by
   cases h2 : bytesBefore b a with
   | false => rfl
   | true =>
    have := WideShapes.bytes_trans _ _ _ h1 h2
    rw [show bytesBefore a a = false from WideAt.bytes_irrefl a] at this
    cases this
  rw [this]; rfl
 | false =>
  rcases WideAt.bytes_total a b h with h2 | h2
  ·rw [h1] at h2; cases h2
  ·rw [h2]; rfl
section
variable {α : Type}
theorem asIns_none {x : Nm × α} : ∀ {d : List (Nm × α)}, (∀ q ∈ d, bytesBefore x.1 q.1 = false) → asIns x d = d ++ [x]
 | [], _ => rfl
 | y :: r, h => by
  unfold asIns
  rw [if_neg (by rw [h y (List.mem_cons_self ..)]; simp), asIns_none (fun q hq => h q (List.mem_cons_of_mem _ hq))]
  rfl
theorem asIns_here {x y : Nm × α} : ∀ {d : List (Nm × α)}, (∀ q ∈ d, bytesBefore x.1 q.1 = false) → bytesBefore x.1 y.1 = true → asIns x (d ++ [y]) = d ++ [x] ++ [y]
 | [], _, h => by simp [asIns, h]
 | z :: r, h, h2 => by
  rw [List.cons_append]
  unfold asIns
  rw [if_neg (by rw [h z (List.mem_cons_self ..)]; simp), asIns_here (fun q hq => h q (List.mem_cons_of_mem _ hq)) h2]
  rfl
theorem asIns_after {x y : Nm × α} : ∀ {d : List (Nm × α)}, (∃ q ∈ d, bytesBefore x.1 q.1 = true) → asIns x (d ++ [y]) = asIns x d ++ [y]
 | [], h => by obtain ⟨q, hq, _⟩ := h; cases hq
 | z :: r, h => by
  rw [List.cons_append]
  unfold asIns
  by_cases hz : bytesBefore x.1 z.1 = true
  ·rw [if_pos hz, if_pos hz]; rfl
  ·rw [if_neg hz, if_neg hz, asIns_after]
   ·rfl
   ·obtain ⟨q, hq, h1⟩ := h
    rcases List.mem_cons.1 hq with rfl | hq
    ·exact absurd h1 hz
    ·exact ⟨q, hq, h1⟩
theorem asIns_rising {x : Nm × α} : ∀ {d : List (Nm × α)}, Rising d → (∀ q ∈ d, q.1 ≠ x.1) → Rising (asIns x d)
 | [], _, _ => by simp [asIns, Rising]
 | y :: r, h, hne => by
  have h1 := List.pairwise_cons.1 h
  unfold asIns
  by_cases hb : bytesBefore x.1 y.1 = true
  ·rw [if_pos hb]
   refine List.pairwise_cons.2 ⟨fun q hq => ?_, h⟩
   rcases List.mem_cons.1 hq with rfl | hq
   ·exact hb
   ·exact WideShapes.bytes_trans _ _ _ hb (h1.1 q hq)
  ·rw [if_neg hb]
   refine List.pairwise_cons.2 ⟨fun q hq => ?_, asIns_rising h1.2 (fun q hq => hne q (List.mem_cons_of_mem _ hq))⟩
   rcases asIns_mem.1 hq with rfl | hq
   ·rcases WideAt.bytes_total y.1 q.1 (hne y (List.mem_cons_self ..)) with h2 | h2
    ·exact h2
    ·exact absurd h2 hb
   ·exact h1.1 q hq
theorem asPut_rising {n : Nm} {a : α} {l : List (Nm × α)} (h : Rising l) : Rising (asPut n a l) := asIns_rising (asDel_rising h) (fun q hq => (asDel_mem.1 hq).2)
def putSt (n : Nm) (f : α) (l : List (Nm × α)) (dn : Bool) (out : List (Nm × α)) : Prop :=
 (dn = false ∧ out = asDel n l ∧ ∀ q ∈ l, bytesBefore n q.1 = false) ∨ (dn = true ∧ out = asPut n f l ∧ ∃ q ∈ asDel n l, bytesBefore n q.1 = true)
theorem asDel_snoc (n : Nm) (l : List (Nm × α)) (y : Nm × α) : asDel n (l ++ [y]) = asDel n l ++ (if y.1 = n then [] else [y]) := by
 unfold asDel
 rw [List.filter_append]
 by_cases h : y.1 = n <;> simp [h]
theorem putSt_same {n : Nm} {f : α} {l out : List (Nm × α)} {dn : Bool} {y : Nm × α} (h : putSt n f l dn out) (hy : y.1 = n) : putSt n f (l ++ [y]) dn out := by
 have e : asDel n (l ++ [y]) = asDel n l := by rw [asDel_snoc, if_pos hy, List.append_nil]
 rcases h with ⟨h1, h2, h3⟩ | ⟨h1, h2, h3⟩
 ·refine .inl ⟨h1, by rw [e, h2], fun q hq => ?_⟩
  rcases List.mem_append.1 hq with hq | hq
  ·exact h3 q hq
  ·rw [List.mem_singleton.1 hq, hy]; exact WideAt.bytes_irrefl n
 ·exact .inr ⟨h1, by unfold asPut; rw [e, h2]; rfl, by rw [e]; exact h3⟩
theorem putSt_after {n : Nm} {f : α} {l out : List (Nm × α)} {y : Nm × α} (h : putSt n f l true out) (hy : y.1 ≠ n) : putSt n f (l ++ [y]) true (out ++ [y]) := by
 have e : asDel n (l ++ [y]) = asDel n l ++ [y] := by rw [asDel_snoc, if_neg hy]
 rcases h with ⟨h1, _⟩ | ⟨_, h2, h3⟩
 ·cases h1
 ·refine .inr ⟨rfl, ?_, ?_⟩
  ·unfold asPut
   rw [e, asIns_after h3, h2]
   rfl
  ·obtain ⟨q, hq, h4⟩ := h3
   exact ⟨q, by rw [e]; exact List.mem_append_left _ hq, h4⟩
theorem putSt_here {n : Nm} {f : α} {l out : List (Nm × α)} {y : Nm × α} (h : putSt n f l false out) (hy : y.1 ≠ n) (hb : bytesBefore n y.1 = true) : putSt n f (l ++ [y]) true (out ++ [(n, f)] ++ [y]) := by
 have e : asDel n (l ++ [y]) = asDel n l ++ [y] := by rw [asDel_snoc, if_neg hy]
 rcases h with ⟨_, h2, h3⟩ | ⟨h1, _⟩
 ·refine .inr ⟨rfl, ?_, y, by rw [e]; simp, hb⟩
  unfold asPut
  rw [e, asIns_here (fun q hq => h3 q (asDel_mem.1 hq).1) hb, h2]
 ·cases h1
theorem putSt_not {n : Nm} {f : α} {l out : List (Nm × α)} {y : Nm × α} (h : putSt n f l false out) (hy : y.1 ≠ n) (hb : bytesBefore n y.1 = false) : putSt n f (l ++ [y]) false (out ++ [y]) := by
 have e : asDel n (l ++ [y]) = asDel n l ++ [y] := by rw [asDel_snoc, if_neg hy]
 rcases h with ⟨_, h2, h3⟩ | ⟨h1, _⟩
 ·refine .inl ⟨rfl, by rw [e, h2], fun q hq => ?_⟩
  rcases List.mem_append.1 hq with hq | hq
  ·exact h3 q hq
  ·rw [List.mem_singleton.1 hq]; exact hb
 ·cases h1
theorem putSt_end {n : Nm} {f : α} {l out : List (Nm × α)} {dn : Bool} (h : putSt n f l dn out) : (if dn = true then out else out ++ [(n, f)]) = asPut n f l := by
 rcases h with ⟨rfl, h2, h3⟩ | ⟨rfl, h2, _⟩
 ·rw [if_neg (by simp), h2]
  unfold asPut
  rw [asIns_none (fun q hq => h3 q (asDel_mem.1 hq).1)]
 ·rw [if_pos rfl, h2]
theorem putSt_len {n : Nm} {f : α} {l out : List (Nm × α)} {dn : Bool} (h : putSt n f l dn out) : out.length ≤ l.length + 1 := by
 have := asDel_length_le n l
 rcases h with ⟨_, h2, _⟩ | ⟨_, h2, _⟩
 ·rw [h2]; omega
 ·rw [h2]; unfold asPut; rw [asIns_length]; omega
end
end Go.Proofs.YteehkcpokgeipaaGreatDoor
