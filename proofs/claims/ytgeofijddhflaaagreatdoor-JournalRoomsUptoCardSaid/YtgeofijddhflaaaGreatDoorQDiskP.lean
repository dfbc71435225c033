/- A map from names to pointers, of a call's own, as a row of pairs by rising names. No condition. -/
import Derived.Test.YtgeofijddhflaaaGreatDoorQMem
import Derived.Maps.Own
import Derived.Maps.OwnSet
import Derived.Maps.Ext
import Derived.Maps.RangeWalk
import Derived.Sort.KeysCollected
import Derived.StringKeys
set_option linter.unusedVariables false
namespace Go.Proofs.YtgeofijddhflaaaGreatDoor
open Go.RowKit Go.Maps Go.Sort
abbrev Nm := List UInt8
section
variable {α β : Type}
def asIns (x : Nm × α) : List (Nm × α) → List (Nm × α)
 | [] => [x]
 | y :: r => if bytesBefore x.1 y.1 = true then x :: y :: r else y :: asIns x r
def asDel (n : Nm) (l : List (Nm × α)) : List (Nm × α) := l.filter fun p => !(p.1 == n)
def asPut (n : Nm) (a : α) (l : List (Nm × α)) : List (Nm × α) := asIns (n, a) (asDel n l)
def asGet (n : Nm) (l : List (Nm × α)) : Option α := (l.find? fun p => p.1 == n).map (·.2)
abbrev sec (f : α → β) (l : List (Nm × α)) : List (Nm × β) := l.map fun p => (p.1, f p.2)
theorem asIns_sec (f : α → β) (x : Nm × α) : ∀ l, sec f (asIns x l) = asIns (x.1, f x.2) (sec f l)
 | [] => rfl
 | y :: r => by
  unfold asIns
  by_cases h : bytesBefore x.1 y.1 = true
  ·rw [if_pos h]
   simp only [List.map_cons]
   rw [if_pos h]
  ·rw [if_neg h]
   simp only [List.map_cons]
   rw [if_neg h]
   exact congrArg _ (asIns_sec f x r)
theorem asDel_sec (f : α → β) (n : Nm) (l : List (Nm × α)) : sec f (asDel n l) = asDel n (sec f l) := by
 unfold asDel sec
 rw [List.filter_map]
 rfl
theorem asPut_sec (f : α → β) (n : Nm) (a : α) (l : List (Nm × α)) : sec f (asPut n a l) = asPut n (f a) (sec f l) := by
 unfold asPut
 rw [asIns_sec, asDel_sec]
theorem asGet_sec (f : α → β) (n : Nm) (l : List (Nm × α)) : asGet n (sec f l) = (asGet n l).map f := by
 unfold asGet sec
 rw [List.find?_map, Option.map_map, Option.map_map]
 rfl
theorem asIns_mem {x : Nm × α} {l : List (Nm × α)} {p : Nm × α} : p ∈ asIns x l ↔ p = x ∨ p ∈ l := by
 induction l with
 | nil => simp [asIns]
 | cons y r ih =>
  unfold asIns
  split
  ·simp
  ·simp only [List.mem_cons, ih]
   constructor
   ·rintro (h | h | h) <;> simp [h]
   ·rintro (h | h | h) <;> simp [h]
theorem asDel_mem {n : Nm} {l : List (Nm × α)} {p : Nm × α} : p ∈ asDel n l ↔ p ∈ l ∧ p.1 ≠ n := by
 unfold asDel
 simp
theorem asPut_mem {n : Nm} {a : α} {l : List (Nm × α)} {p : Nm × α} : p ∈ asPut n a l ↔ p = (n, a) ∨ (p ∈ l ∧ p.1 ≠ n) := by
 unfold asPut
 rw [asIns_mem, asDel_mem]
theorem asIns_length (x : Nm × α) : ∀ l, (asIns x l).length = l.length + 1
 | [] => rfl
 | y :: r => by
  unfold asIns
  split
  ·rfl
  ·simp [asIns_length x r]
theorem asGet_some {n : Nm} {l : List (Nm × α)} {a : α} (h : asGet n l = some a) : (n, a) ∈ l := by
 unfold asGet at h
 rw [Option.map_eq_some_iff] at h
 obtain ⟨p, hp, rfl⟩ := h
 have h1 := List.mem_of_find?_eq_some hp
 have h2 := List.find?_some hp
 simp only [beq_iff_eq] at h2
 rw [← h2]
 exact h1
theorem bytes_le : ∀ {a b : Nm}, bytesBefore a b = true → a ≤ b
 | [], _, _ => List.nil_le _
 | _ :: _, [], h => by simp [bytesBefore] at h
 | x :: a, y :: b, h => by
  simp only [bytesBefore, Bool.or_eq_true, decide_eq_true_eq, Bool.and_eq_true, beq_iff_eq] at h
  rw [List.cons_le_cons_iff]
  rcases h with h | ⟨rfl, h⟩
  ·exact .inl h
  ·exact .inr ⟨rfl, bytes_le h⟩
def Rising (l : List (Nm × α)) : Prop := l.Pairwise fun p q => bytesBefore p.1 q.1 = true
end
theorem sorted_names {l : List (Nm × Nat)} (hr : l.Pairwise fun p q => bytesBefore p.1 q.1 = true) {ss : List Nm} (h : ss.Perm (l.map (·.1))) : ss.mergeSort (fun x y => decide (x ≤ y)) = l.map (·.1) := by
 rw [mergeSort_of_perm h]
 refine List.mergeSort_of_pairwise ?_
 rw [List.pairwise_map]
 exact hr.imp fun h => decide_eq_true (bytes_le h)
def ptrR (v : Value) : Option (DataW Unit × List MemPlace) :=
 match v with
 | .pointer none => some (.nil, [])
 | .pointer (some ⟨g, 0, none⟩) => some (.lit (.int .i64 g), [])
 | _ => none
def ptrV : Option Nat → Value
 | none => .pointer none
 | some g => .pointer (some ⟨g, 0, none⟩)
theorem ptrR_V (o : Option Nat) : ptrR (ptrV o) = some (match o with | none => .nil | some g => .lit (.int .i64 g), []) := by
 cases o <;> rfl
theorem ptrR_inv {v : Value} {y : DataW Unit × List MemPlace} (h : ptrR v = some y) : ∃ o, v = ptrV o := by
 unfold ptrR at h
 split at h
 ·exact ⟨none, rfl⟩
 ·rename_i g
  exact ⟨some g, rfl⟩
 ·cases h
def entP (p : Nm × Nat) : Lit × DataW Unit := (.string p.1, .lit (.int .i64 p.2))
def entD (l : List (Nm × Nat)) : DataW Unit := .map (l.map entP)
theorem entD_ins (x : Nm × Nat) : ∀ l : List (Nm × Nat), (asIns x l).map entP = DataW.insert (entP x) (l.map entP)
 | [] => rfl
 | y :: r => by
  unfold asIns
  simp only [List.map_cons, DataW.insert]
  have e : (entP x).1.before (entP y).1 = bytesBefore x.1 y.1 := rfl
  rw [e]
  by_cases h : bytesBefore x.1 y.1 = true
  ·rw [if_pos h, if_pos h]
   rfl
  ·rw [if_neg h, if_neg h, List.map_cons, entD_ins x r]
theorem entD_filter (n : Nm) (l : List (Nm × Nat)) : (asDel n l).map entP = (l.map entP).filter (ChangeMaps.notKey (.string n)) := by
 unfold asDel
 rw [List.filter_map]
 rfl
theorem entD_put (n : Nm) (g : Nat) (l : List (Nm × Nat)) : (entD l).put (.string n) (.lit (.int .i64 g)) = entD (asPut n g l) := by
 unfold entD
 rw [DataW.put_eq]
 unfold asPut ChangeMaps.putKey
 rw [entD_ins, entD_filter]
 rfl
theorem entD_del (n : Nm) (l : List (Nm × Nat)) : (entD l).del (.string n) = entD (asDel n l) := by
 unfold entD
 rw [DataW.del_eq]
 unfold ChangeMaps.delKey
 rw [entD_filter]
theorem entD_at (n : Nm) (l : List (Nm × Nat)) (z : DataW Unit) : (entD l).atKey (.string n) z = match asGet n l with | some g => .lit (.int .i64 g) | none => z := by
 unfold entD asGet DataW.atKey
 simp only
 rw [List.find?_map]
 have e : ((fun p : Lit × DataW Unit => p.1.sameKey (.string n)) ∘ entP) = fun p : Nm × Nat => p.1 == n := rfl
 rw [e]
 cases l.find? (fun p => p.1 == n) <;> rfl
theorem entD_has (n : Nm) (l : List (Nm × Nat)) : Maps.has (entD l) (.string n) = (asGet n l).isSome := by
 unfold entD asGet
 rw [Maps.has_eq, List.any_map]
 have e : ((fun p : Lit × DataW Unit => p.1.sameKey (.string n)) ∘ entP) = fun p : Nm × Nat => p.1 == n := rfl
 rw [e, Option.isSome_map, ← List.isSome_find?]
theorem entD_size (l : List (Nm × Nat)) : Maps.size (entD l) = l.length := by
 unfold entD
 rw [Maps.size_eq, List.length_map]
section
variable {P : Program} {k t e : TypeId} {w w' : World} {m : Nat} {l : List (Nm × Nat)}
def MapAt (P : Program) (k : TypeId) (w : World) (m : Nat) (l : List (Nm × Nat)) : Prop := w.ownsMap P k ptrR m l.length (entD l)
theorem MapAt.of_owns {n : Nat} (h : w.ownsMap P k ptrR m n (entD l)) : MapAt P k w m l := by
 obtain ⟨es, clock, hb, F, hs, hD⟩ := h
 refine ⟨es, clock, hb, F, ?_, hD⟩
 have h1 := entD_size l
 rw [hD] at h1
 have h2 := length_read (P := P) (k := k) (R0 := ptrR) es
 rw [Maps.size_eq] at h1
 omega
theorem MapAt.made (P : Program) (k : TypeId) (w : World) : MapAt P k (w.alloc (.map #[] 0)) w.heap.size [] := World.ownsMap_made w P k ptrR
theorem MapAt.lt (h : MapAt P k w m l) : m < w.heap.size := World.ownsMap.lt h
theorem MapAt.keep (h : MapAt P k w m l) (hb : w'.heap[m]? = w.heap[m]?) : MapAt P k w' m l := by
 obtain ⟨es, clock, hb0, F, hs, hD⟩ := h
 exact ⟨es, clock, hb.trans hb0, F, hs, hD⟩
theorem MapAt.rising (h : MapAt P k w m l) (K : Keyed P k) : Rising l := by
 obtain ⟨es, he, hp, _⟩ := World.ownsMap.canon h K
 unfold entD at he
 injection he with he
 rw [← he, List.pairwise_map] at hp
 exact hp
theorem MapAt.get (h : MapAt P k w m l) (hk : P.underlying k = some .string) (ht : P.underlying t = some (.map k e)) (hz : (zeroValue e).run P w = .ok (.pointer none) w) (s : ByteArray) (hs : s.size ≤ maxLen) :
  (Instr.lookup t (.map (some m)) (.string s) false).run P w = .ok (ptrV (asGet s.data.toList l)) w := by
 obtain ⟨v, ps, hrun, hv⟩ := World.ownsMap.lookup h (string_keyed hk) ht hz (zd := .nil) (zp := []) rfl (WideMaps.keyOf_string_mk hk hs)
 rw [entD_at] at hv
 obtain ⟨o, rfl⟩ := ptrR_inv hv
 rw [ptrR_V] at hv
 rw [hrun]
 have : o = asGet s.data.toList l := by
  cases h1 : asGet s.data.toList l <;> rw [h1] at hv <;> cases o <;> simp at hv ⊢
  have := hv.1
  omega
 rw [this]
theorem MapAt.put (h : MapAt P k w m l) (hk : P.underlying k = some .string) (ht : P.underlying t = some (.map k e)) (hn : l.length < maxLen) (s : ByteArray) (hs : s.size ≤ maxLen) (g : Nat) :
  ∃ w', (Instr.mapUpdate t (.map (some m)) (.string s) (.pointer (some ⟨g, 0, none⟩))).run P w = .ok () w' ∧ MapAt P k w' m (asPut s.data.toList g l) ∧ w.grownBy w' (some m) := by
 obtain ⟨w', hrun, h2, h3⟩ := World.ownsMap.update h (string_keyed hk) ht hn (WideMaps.keyOf_string_mk hk hs) (val := .pointer (some ⟨g, 0, none⟩)) (d := .lit (.int .i64 g)) (ps := []) rfl
 rw [entD_put] at h2
 exact ⟨w', hrun, MapAt.of_owns h2, h3⟩
theorem MapAt.del (h : MapAt P k w m l) (hk : P.underlying k = some .string) (ht : P.underlying t = some (.map k e)) (s : ByteArray) (hs : s.size ≤ maxLen) (ty : TypeId) :
  ∃ w', (Builtin.delete_ #[t, k] ty #[.map (some m), .string s]).run P w = .ok (.tuple #[]) w' ∧ MapAt P k w' m (asDel s.data.toList l) ∧ w.grownBy w' (some m) := by
 obtain ⟨w', hrun, h2, h3⟩ := World.ownsMap.drop h (string_keyed hk) ht (WideMaps.keyOf_string_mk hk hs) ty
 rw [entD_del] at h2
 exact ⟨w', hrun, MapAt.of_owns h2, h3.grown⟩
variable {ops : Array Oper} {rest : List Oper} {o : Oper} {a : Act} {Q : Exit → Act → World → Prop}
theorem wp_put_ptr {K : Act → World → Prop} (mo xo vo : Operand) (t : TypeId) (hop : o.op = Op.mapUpdate t mo xo vo) (hk : P.underlying k = some .string) (ht : P.underlying t = some (.map k e)) (h : MapAt P k w m l) (hn : l.length < maxLen) (s : ByteArray) (hs : s.size ≤ maxLen) (g : Nat)
  (hm : a.eval mo = .map (some m)) (hx : a.eval xo = .string s) (hv : a.eval vo = .pointer (some ⟨g, 0, none⟩)) (hK : ∀ w', MapAt P k w' m (asPut s.data.toList g l) → w.grownBy w' (some m) → K (a.put o.dst undef) w') : o.wp P a w K Q := by
 obtain ⟨w', hrun, r1, r2⟩ := h.put hk ht hn s hs g
 unfold Oper.wp
 simp [execOp, hop, hm, hx, hv, hrun, Result.andThen]
 exact hK w' r1 r2
theorem wpList_put_ptr (hg : o.guard = none) (mo xo vo : Operand) (t : TypeId) (hop : o.op = Op.mapUpdate t mo xo vo) (hk : P.underlying k = some .string) (ht : P.underlying t = some (.map k e)) (h : MapAt P k w m l) (hn : l.length < maxLen) (s : ByteArray) (hs : s.size ≤ maxLen) (g : Nat)
  (hm : a.eval mo = .map (some m)) (hx : a.eval xo = .string s) (hv : a.eval vo = .pointer (some ⟨g, 0, none⟩)) (hK : ∀ w', MapAt P k w' m (asPut s.data.toList g l) → w.grownBy w' (some m) → wpList P ops Q rest (a.put o.dst undef) w') : wpList P ops Q (o :: rest) a w :=
 wpList_plain hg fun K' hK' => wp_put_ptr mo xo vo t hop hk ht h hn s hs g hm hx hv fun w' h1 h2 => hK' _ _ (hK w' h1 h2)
def RangeAt (P : Program) (k : TypeId) (w : World) (m r : Nat) (l : List (Nm × Nat)) (left : Lit → Bool) (cnt : Nat) : Prop := w.ranges P k ptrR m r l.length (entD l) left cnt
def toCome {α : Type} (l : List (Nm × α)) (left : Lit → Bool) : List (Nm × α) := l.filter fun p => left (.string p.1)
theorem RangeAt.owns {r cnt : Nat} {left : Lit → Bool} (h : RangeAt P k w m r l left cnt) : MapAt P k w m l := World.ranges.owns h
theorem wpList_range_ptr (hg : o.guard = none) (mo : Operand) (t : TypeId) (hop : o.op = Op.range t mo) (hk : P.underlying k = some .string) (ht : P.underlying t = some (.map k e)) (h : MapAt P k w m l) (hm : a.eval mo = .map (some m))
  (hK : ∀ w' left, RangeAt P k w' m w.heap.size l left l.length → (∀ p ∈ l, left (.string p.1) = true) → w.grownBy w' none → w'.heap.size = w.heap.size + 1 → wpList P ops Q rest (a.put o.dst (.pointer (some ⟨w.heap.size, 0, none⟩))) w') : wpList P ops Q (o :: rest) a w := by
 refine wpList_range_own w hg mo t hop k e (string_keyed hk) ht ptrR m l.length (entD l) hm h fun w' h1 h2 h3 => hK w' (Maps.has (entD l)) ?_ ?_ h2 h3
 ·unfold RangeAt
  rw [← entD_size l] at h1 ⊢
  rw [entD_size] at h1
  simpa [entD_size] using h1
 ·intro p hp
  rw [entD_has]
  unfold asGet
  rw [Option.isSome_map, List.isSome_find?, List.any_eq_true]
  exact ⟨p, hp, by simp⟩
theorem toCome_step {α : Type} {l : List (Nm × α)} {n : Nm} {g : α} {left : Lit → Bool} (hr : Rising l) (hn : asGet n l = some g) (hl : left (.string n) = true) :
  (toCome l left).Perm ((n, g) :: toCome l (fun z => left z && !z.sameKey (.string n))) := by
 have hmem := asGet_some hn
 induction l with
 | nil => cases hmem
 | cons y r ih =>
  have hr' : Rising r := (List.pairwise_cons.1 hr).2
  have hlt := (List.pairwise_cons.1 hr).1
  by_cases hy : y.1 = n
  ·have hyy : y = (n, g) := by
    unfold asGet at hn
    rw [List.find?_cons_of_pos (by simp [hy])] at hn
    simp at hn
    rw [← hn, ← hy]
   subst hyy
   have hrest : ∀ p ∈ r, p.1 ≠ n := fun p hp e => by
    have h1 := hlt p hp
    rw [e] at h1
    rw [show bytesBefore n n = false from WideAt.bytes_irrefl n] at h1
    cases h1
   unfold toCome
   rw [List.filter_cons_of_pos (by exact hl), List.filter_cons_of_neg (by simp [Lit.sameKey])]
   refine List.Perm.cons _ ?_
   rw [List.filter_congr (fun p hp => ?_)]
   have := hrest p hp
   simp [Lit.sameKey, this]
  ·have hn' : asGet n r = some g := by
    unfold asGet at hn ⊢
    rwa [List.find?_cons_of_neg (by simp [hy])] at hn
   have h2 := ih hr' hn' (asGet_some hn')
   unfold toCome at h2 ⊢
   by_cases hly : left (.string y.1) = true
   ·rw [List.filter_cons_of_pos (by exact hly), List.filter_cons_of_pos (by simp [Lit.sameKey, hly, hy])]
    exact (List.Perm.cons _ h2).trans (List.Perm.swap _ _ _)
   ·rw [List.filter_cons_of_neg (by exact hly), List.filter_cons_of_neg (by simp [hly])]
    exact h2
theorem wpList_next_ptr (hg : o.guard = none) (it : Operand) (hop : o.op = Op.next it false) (hk : P.underlying k = some .string) {r cnt : Nat} {left : Lit → Bool} (h : RangeAt P k w m r l left cnt) (hit : a.eval it = .pointer (some ⟨r, 0, none⟩))
  (hDone : (∀ kl, left kl = false) → wpList P ops Q rest (a.put o.dst (.tuple #[.bool false])) w)
  (hMore : ∀ (s : ByteArray) (g : Nat) (w' : World) (cnt' : Nat), asGet s.data.toList l = some g → left (.string s.data.toList) = true → RangeAt P k w' m r l (fun z => left z && !z.sameKey (.string s.data.toList)) cnt' → cnt' < cnt →
   w.grownBy w' (some r) → w'.heap.size = w.heap.size → (Instr.entry (.pointer (some ⟨r, 0, none⟩))).run P w' = .ok (.tuple #[.string s, .pointer (some ⟨g, 0, none⟩)]) w' → wpList P ops Q rest (a.put o.dst (.tuple #[.bool true, .string s, .pointer (some ⟨g, 0, none⟩)])) w') : wpList P ops Q (o :: rest) a w := by
 have hri := h.owns.rising (string_keyed hk)
 refine wpList_next_ranges w hg it hop k (string_keyed hk) ptrR Value.string ptrV (fun key kl hkey => by obtain ⟨s, rfl, _⟩ := WideMaps.string_of_keyOf hk hkey; exact ⟨s, rfl⟩) (fun v y hv => ptrR_inv hv) m r l.length (entD l) left cnt hit h
  (fun _ hl => hDone hl) (fun s c kl y w' cnt' hkey hlk hv hat hrg hlt hgr hsz hen => ?_)
 obtain ⟨s', es, rfl, _⟩ := WideMaps.string_of_keyOf hk hkey
 cases es
 have h1 := hat (.agg [])
 rw [entD_at] at h1
 rw [ptrR_V] at hv
 injection hv with hv
 subst hv
 cases hg1 : asGet s.data.toList l with
 | none =>
  rw [hg1] at h1
  cases c <;> simp at h1
 | some g =>
  rw [hg1] at h1
  cases c with
  | none => simp at h1
  | some g' =>
   have hgg : g' = g := by
    simp at h1
    omega
   subst hgg
   exact hMore s g' w' cnt' hg1 hlk hrg hlt hgr hsz hen
end
end Go.Proofs.YtgeofijddhflaaaGreatDoor
set_option linter.unusedVariables false
namespace Go.Proofs.YtgeofijddhflaaaGreatDoor
structure FD where
 b : List UInt8
 safe : Nat
structure PWD where
 off : Bool
 armed : Bool
 acts : Int
 part : Int
structure DkD where
 pw : PWD
 room : Int
 fs : List (Nm × FD)
def PWD.cut (p : PWD) : Bool × Int × PWD := if p.armed = false then (false, 0, p) else if 0 < p.acts then (false, 0, { p with acts := p.acts - 1 }) else (true, p.part, { p with armed := false, off := true })
def sizes : List (Nm × FD) → Int
 | [] => 0
 | q :: r => (q.2.b.length : Int) + sizes r
def DkD.free (d : DkD) : Int := d.room - sizes d.fs
def fits : Int → List (List UInt8) → Bool
 | _, [] => true
 | left, p :: r => decide ((p.length : Int) ≤ left) && fits (left - p.length) r
def upTo (part : Int) (p : List UInt8) : List UInt8 := p.take (part % (p.length + 1)).toNat
def DkD.append (d : DkD) (n : Nm) (parts : List (List UInt8)) : Int × DkD :=
 if d.pw.off = true then (50, d) else if n = [] ∨ 32 < n.length then (1, d) else if fits d.free parts = false then (52, d)
 else (if d.pw.cut.1 = true then 50 else 0, ⟨d.pw.cut.2.2, d.room, asPut n ⟨((asGet n d.fs).getD ⟨[], 0⟩).b ++ (if d.pw.cut.1 = true then upTo d.pw.cut.2.1 parts.flatten else parts.flatten), ((asGet n d.fs).getD ⟨[], 0⟩).safe⟩ d.fs⟩)
def DkD.sync (d : DkD) (n : Nm) : Int × DkD :=
 if d.pw.off = true then (50, d) else match asGet n d.fs with
 | none => (51, d)
 | some f => if d.pw.cut.1 = true then (50, { d with pw := d.pw.cut.2.2 }) else (0, ⟨d.pw.cut.2.2, d.room, asPut n ⟨f.b, f.b.length⟩ d.fs⟩)
def DkD.whole (d : DkD) (fs : List (Nm × FD)) : Int × DkD :=
 (if d.pw.cut.1 = true then 50 else 0, ⟨d.pw.cut.2.2, d.room, if d.pw.cut.1 = false ∨ d.pw.cut.2.1 % 2 ≠ 0 then fs else d.fs⟩)
def DkD.cutF (d : DkD) (n : Nm) (k : Int) : Int × DkD :=
 if d.pw.off = true then (50, d) else match asGet n d.fs with
 | none => (51, d)
 | some f => if k < 0 ∨ (f.b.length : Int) < k then (1, d) else d.whole (asPut n ⟨f.b.take k.toNat, min f.safe k.toNat⟩ d.fs)
def DkD.rename (d : DkD) (a b : Nm) : Int × DkD :=
 if d.pw.off = true then (50, d) else match asGet a d.fs with
 | none => (51, d)
 | some f => if b = [] ∨ 32 < b.length ∨ a = b then (1, d) else d.whole (asPut b f (asDel a d.fs))
def DkD.remove (d : DkD) (n : Nm) : Int × DkD :=
 if d.pw.off = true then (50, d) else match asGet n d.fs with
 | none => (51, d)
 | some f => d.whole (asDel n d.fs)
def DkD.read (d : DkD) (n : Nm) : List UInt8 × Int :=
 if d.pw.off = true then ([], 50) else match asGet n d.fs with
 | none => ([], 51)
 | some f => (f.b, 0)
theorem sizes_perm {a b : List (Nm × FD)} (h : a.Perm b) : sizes a = sizes b := by
 induction h with
 | nil => rfl
 | cons x _ ih => simp [sizes, ih]
 | swap x y l => simp [sizes]; omega
 | trans _ _ h1 h2 => rw [h1, h2]
theorem sizes_nonneg : ∀ l : List (Nm × FD), 0 ≤ sizes l
 | [] => Int.le_refl _
 | q :: r => by
  have := sizes_nonneg r
  unfold sizes
  omega
end Go.Proofs.YtgeofijddhflaaaGreatDoor
