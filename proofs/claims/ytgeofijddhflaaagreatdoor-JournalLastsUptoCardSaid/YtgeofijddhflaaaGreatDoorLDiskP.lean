/- A map from names to pointers, of a call's own, as a row of pairs by rising names. No condition. -/
import Derived.Test.YtgeofijddhflaaaGreatDoorLHeldS
import Derived.Maps.Ext
import Derived.Maps.RangeWalk
import Derived.Sort.KeysCollected
set_option linter.unusedVariables false
set_option linter.unusedSimpArgs false
namespace Go.Proofs.YtgeofijddhflaaaGreatDoor
section
open Go.RowKit Go.Maps Go.Sort
abbrev Nm := List UInt8
section
variable {α β : Type}
def asIns (x : Nm × α) : List (Nm × α) -> List (Nm × α)
 | [] => [x]
 | y :: r => if bytesBefore x.1 y.1 = true then x :: y :: r else y :: asIns x r
def aB6 (n : Nm) (l : List (Nm × α)) : List (Nm × α) := l.filter fun p => !(p.1 == n)
def aB3 (n : Nm) (a : α) (l : List (Nm × α)) : List (Nm × α) := asIns (n, a) (aB6 n l)
def aA9 (n : Nm) (l : List (Nm × α)) : Option α := (l.find? fun p => p.1 == n).map (·.2)
abbrev sec (f : α -> β) (l : List (Nm × α)) : List (Nm × β) := l.map fun p => (p.1, f p.2)
theorem bW1 (f : α -> β) (x : Nm × α) : ∀ l, sec f (asIns x l) = asIns (x.1, f x.2) (sec f l)
 | [] => rfl
 | y :: r => by
  unfold asIns;by_cases h : bytesBefore x.1 y.1 = true
  ·rw [if_pos h]
   simp only [mG];rw [if_pos h]
  rw [if_neg h];simp only [mG];rw [if_neg h];exact congrArg _ (bW1 f x r)
theorem aZ6 (f : α -> β) (n : Nm) (l : List (Nm × α)) : sec f (aB6 n l) = aB6 n (sec f l) := by
 unfold aB6 sec;rw [List.filter_map]
 rfl
theorem aU2 (f : α -> β) (n : Nm) (a : α) (l : List (Nm × α)) : sec f (aB3 n a l) = aB3 n (f a) (sec f l) := by
 unfold aB3;rw [bW1, aZ6]
theorem aJ4 (f : α -> β) (n : Nm) (l : List (Nm × α)) : aA9 n (sec f l) = (aA9 n l).map f := by
 unfold aA9 sec;rw [List.find?_map, Option.map_map, Option.map_map]
 rfl
theorem asIns_mem {x : Nm × α} {l : List (Nm × α)} {p : Nm × α} : p ∈ asIns x l ↔ p = x ∨ p ∈ l := by
 induction l with
 | nil => simp [asIns]
 | cons y r ih =>
  unfold asIns;split
  ·simp
  simp only [List.mem_cons, ih];constructor
  ·rintro (h | h | h) <;> simp [h]
  rintro (h | h | h) <;> simp [h]
theorem aI5 {n : Nm} {l : List (Nm × α)} {p : Nm × α} : p ∈ aB6 n l ↔ p ∈ l ∧ p.1 ≠ n := by
 unfold aB6;simp
theorem asPut_mem {n : Nm} {a : α} {l : List (Nm × α)} {p : Nm × α} : p ∈ aB3 n a l ↔ p = (n, a) ∨ (p ∈ l ∧ p.1 ≠ n) := by
 unfold aB3;rw [asIns_mem, aI5]
theorem aQ1 (x : Nm × α) : ∀ l, (asIns x l).length = l.length + 1
 | [] => rfl
 | y :: r => by
  unfold asIns;split
  ·rfl
  simp [aQ1 x r]
theorem aC7 {n : Nm} {l : List (Nm × α)} {a : α} (h : aA9 n l = some a) : (n, a) ∈ l := by
 unfold aA9 at h;rw [Option.map_eq_some_iff] at h;obtain ⟨p, hp, rfl⟩ := h;have h1 := List.mem_of_find?_eq_some hp;have h2 := List.find?_some hp;simp only [beq_iff_eq] at h2;rw [<- h2];exact h1
theorem cI0 : ∀ {a b : Nm}, bytesBefore a b = true -> a <= b
 | [], _, _ => List.nil_le _
 | _ :: _, [], h => by simp [bytesBefore] at h
 | x :: a, y :: b, h => by
  simp only [bytesBefore, Bool.or_eq_true, decide_eq_true_eq, Bool.and_eq_true, beq_iff_eq] at h;rw [List.cons_le_cons_iff];rcases h with h | ⟨rfl, h⟩
  ·exact .inl h
  exact .inr ⟨rfl, cI0 h⟩
def aG8 (l : List (Nm × α)) : Prop := l.Pairwise fun p q => bytesBefore p.1 q.1 = true
end
theorem cA9 {l : List (Nm × Nat)} (hr : l.Pairwise fun p q => bytesBefore p.1 q.1 = true) {ss : List Nm} (h : ss.Perm (l.map (·.1))) : ss.mergeSort (fun x y => decide (x <= y)) = l.map (·.1) := by
 rw [mergeSort_of_perm h];refine List.mergeSort_of_pairwise ?_;rw [List.pairwise_map];exact hr.imp fun h => decide_eq_true (cI0 h)
def cX5 (v : Value) : Option (DataW Unit × List MemPlace) :=
 match v with
 | .pointer none => some (.nil, [])
 | .pointer (some ⟨g, 0, none⟩) => some (.lit (.int .i64 g), [])
 | _ => none
def dO2 : Option Nat -> Value
 | none => .pointer none
 | some g => .pointer (some ⟨g, 0, none⟩)
theorem dH6 (o : Option Nat) : cX5 (dO2 o) = some (match o with | none => .nil | some g => .lit (.int .i64 g), []) := by
 cases o <;> rfl
theorem cK2 {v : Value} {y : DataW Unit × List MemPlace} (h : cX5 v = some y) : ∃ o, v = dO2 o := by
 unfold cX5 at h;split at h
 ·exact ⟨none, rfl⟩
 ·rename_i g
  exact ⟨some g, rfl⟩
 cases h
def dA0 (p : Nm × Nat) : Lit × DataW Unit := (.string p.1, .lit (.int .i64 p.2))
def bJ2 (l : List (Nm × Nat)) : DataW Unit := .map (l.map dA0)
theorem cI7 (x : Nm × Nat) : ∀ l : List (Nm × Nat), (asIns x l).map dA0 = DataW.insert (dA0 x) (l.map dA0)
 | [] => rfl
 | y :: r => by
  unfold asIns;simp only [mG, DataW.insert];have e : (dA0 x).1.before (dA0 y).1 = bytesBefore x.1 y.1 := rfl;rw [e];by_cases h : bytesBefore x.1 y.1 = true
  ·rw [if_pos h, if_pos h]
   rfl
  rw [if_neg h, if_neg h, mG, cI7 x r]
theorem bJ3 (n : Nm) (l : List (Nm × Nat)) : (aB6 n l).map dA0 = (l.map dA0).filter (ChangeMaps.notKey (.string n)) := by
 unfold aB6;rw [List.filter_map]
 rfl
theorem dB2 (n : Nm) (g : Nat) (l : List (Nm × Nat)) : (bJ2 l).put (.string n) (.lit (.int .i64 g)) = bJ2 (aB3 n g l) := by
 unfold bJ2;rw [DataW.put_eq];unfold aB3 ChangeMaps.putKey;rw [cI7, bJ3]
 rfl
theorem dB0 (n : Nm) (l : List (Nm × Nat)) : (bJ2 l).del (.string n) = bJ2 (aB6 n l) := by
 unfold bJ2;rw [DataW.del_eq];unfold ChangeMaps.delKey;rw [bJ3]
theorem cS5 (n : Nm) (l : List (Nm × Nat)) (z : DataW Unit) : (bJ2 l).atKey (.string n) z = match aA9 n l with | some g => .lit (.int .i64 g) | none => z := by
 unfold bJ2 aA9 DataW.atKey;simp only;rw [List.find?_map];have e : ((fun p : Lit × DataW Unit => p.1.sameKey (.string n)) ∘ dA0) = fun p : Nm × Nat => p.1 == n := rfl
 rw [e];cases l.find? (fun p => p.1 == n) <;> rfl
theorem dB1 (n : Nm) (l : List (Nm × Nat)) : Maps.has (bJ2 l) (.string n) = (aA9 n l).isSome := by
 unfold bJ2 aA9;rw [Maps.has_eq, List.any_map];have e : ((fun p : Lit × DataW Unit => p.1.sameKey (.string n)) ∘ dA0) = fun p : Nm × Nat => p.1 == n := rfl
 rw [e, Option.isSome_map, <- List.isSome_find?]
theorem aU9 (l : List (Nm × Nat)) : Maps.size (bJ2 l) = l.length := by
 unfold bJ2;rw [Maps.size_eq, lU]
section
variable {P : Program} {k t e : TypeId} {w w' : World} {m : Nat} {l : List (Nm × Nat)}
def aG2 (P : Program) (k : TypeId) (w : World) (m : Nat) (l : List (Nm × Nat)) : Prop := w.ownsMap P k cX5 m l.length (bJ2 l)
theorem aG2.of_owns {n : Nat} (h : w.ownsMap P k cX5 m n (bJ2 l)) : aG2 P k w m l := by
 obtain ⟨es, a7, hb, F, hs, hD⟩ := h;refine ⟨es, a7, hb, F, ?_, hD⟩;have h1 := aU9 l;rw [hD] at h1;have h2 := length_read (P := P) (k := k) (R0 := cX5) es;rw [Maps.size_eq] at h1;omega
theorem aG2.made (P : Program) (k : TypeId) (w : World) : aG2 P k (w.alloc (.map #[] 0)) w.heap.size [] := World.ownsMap_made w P k cX5
theorem aG2.lt (h : aG2 P k w m l) : m < w.heap.size := World.ownsMap.lt h
theorem aG2.keep (h : aG2 P k w m l) (hb : w'.heap[m]? = w.heap[m]?) : aG2 P k w' m l := by
 obtain ⟨es, a7, a8, F, hs, hD⟩ := h;exact ⟨es, a7, hb.trans a8, F, hs, hD⟩
theorem aG2.rising (h : aG2 P k w m l) (K : Keyed P k) : aG8 l := by
 obtain ⟨es, he, hp, _⟩ := World.ownsMap.canon h K;unfold bJ2 at he;injection he with he
 rw [<- he, List.pairwise_map] at hp;exact hp
theorem aG2.get (h : aG2 P k w m l) (hk : P.underlying k = some .string) (ht : P.underlying t = some (.map k e)) (hz : (zeroValue e).run P w = .ok (.pointer none) w) (s : ByteArray) (hs : s.size <= maxLen) :
  (Instr.lookup t (.map (some m)) (.string s) false).run P w = .ok (dO2 (aA9 s.data.toList l)) w := by
 obtain ⟨v, ps, a7, hv⟩ := World.ownsMap.lookup h (string_keyed hk) ht hz (zd := .nil) (zp := []) rfl (WideMaps.keyOf_string_mk hk hs);rw [cS5] at hv;obtain ⟨o, rfl⟩ := cK2 hv;rw [dH6] at hv;rw [a7];have : o = aA9 s.data.toList l := by
  cases h1 : aA9 s.data.toList l <;> rw [h1] at hv <;> cases o <;> simp at hv ⊢
  have := hv.1;omega
 rw [this]
theorem aG2.put (h : aG2 P k w m l) (hk : P.underlying k = some .string) (ht : P.underlying t = some (.map k e)) (hn : l.length < maxLen) (s : ByteArray) (hs : s.size <= maxLen) (g : Nat) :
  ∃ w', (Instr.mapUpdate t (.map (some m)) (.string s) (.pointer (some ⟨g, 0, none⟩))).run P w = .ok () w' ∧ aG2 P k w' m (aB3 s.data.toList g l) ∧ w.grownBy w' (some m) := by
 obtain ⟨w', a7, h2, h3⟩ := World.ownsMap.update h (string_keyed hk) ht hn (WideMaps.keyOf_string_mk hk hs) (val := .pointer (some ⟨g, 0, none⟩)) (d := .lit (.int .i64 g)) (ps := []) rfl;rw [dB2] at h2;exact ⟨w', a7, aG2.of_owns h2, h3⟩
theorem aG2.del (h : aG2 P k w m l) (hk : P.underlying k = some .string) (ht : P.underlying t = some (.map k e)) (s : ByteArray) (hs : s.size <= maxLen) (ty : TypeId) :
  ∃ w', (Builtin.delete_ #[t, k] ty #[.map (some m), .string s]).run P w = .ok (.tuple #[]) w' ∧ aG2 P k w' m (aB6 s.data.toList l) ∧ w.grownBy w' (some m) := by
 obtain ⟨w', a7, h2, h3⟩ := World.ownsMap.drop h (string_keyed hk) ht (WideMaps.keyOf_string_mk hk hs) ty;rw [dB0] at h2;exact ⟨w', a7, aG2.of_owns h2, h3.grown⟩
variable {ops : Array Oper} {rest : List Oper} {o : Oper} {a : Act} {Q : Exit -> Act -> World -> Prop}
theorem bR9 {K : Act -> World -> Prop} (mo xo vo : Operand) (t : TypeId) (a8 : o.op = Op.mapUpdate t mo xo vo) (hk : P.underlying k = some .string) (ht : P.underlying t = some (.map k e)) (h : aG2 P k w m l) (hn : l.length < maxLen) (s : ByteArray) (hs : s.size <= maxLen) (g : Nat)
  (hm : a.eval mo = .map (some m)) (hx : a.eval xo = .string s) (hv : a.eval vo = .pointer (some ⟨g, 0, none⟩)) (hK : ∀ w', aG2 P k w' m (aB3 s.data.toList g l) -> w.grownBy w' (some m) -> K (a.put o.dst undef) w') : o.wp P a w K Q := by
 obtain ⟨w', a7, r1, r2⟩ := h.put hk ht hn s hs g;unfold Oper.wp;simp [execOp, a8, hm, hx, hv, a7, Result.andThen]
 exact hK w' r1 r2
theorem bO9 (hg : o.guard = none) (mo xo vo : Operand) (t : TypeId) (hop : o.op = Op.mapUpdate t mo xo vo) (hk : P.underlying k = some .string) (ht : P.underlying t = some (.map k e)) (h : aG2 P k w m l) (hn : l.length < maxLen) (s : ByteArray) (hs : s.size <= maxLen) (g : Nat)
  (hm : a.eval mo = .map (some m)) (hx : a.eval xo = .string s) (hv : a.eval vo = .pointer (some ⟨g, 0, none⟩)) (hK : ∀ w', aG2 P k w' m (aB3 s.data.toList g l) -> w.grownBy w' (some m) -> wpList P ops Q rest (a.put o.dst undef) w') : wpList P ops Q (o :: rest) a w :=
 wpList_plain hg fun K' hK' => bR9 mo xo vo t hop hk ht h hn s hs g hm hx hv fun w' h1 h2 => hK' _ _ (hK w' h1 h2)
def aY3 (P : Program) (k : TypeId) (w : World) (m r : Nat) (l : List (Nm × Nat)) (left : Lit -> Bool) (cnt : Nat) : Prop := w.ranges P k cX5 m r l.length (bJ2 l) left cnt
def aM5 {α : Type} (l : List (Nm × α)) (left : Lit -> Bool) : List (Nm × α) := l.filter fun p => left (.string p.1)
theorem aY3.owns {r cnt : Nat} {left : Lit -> Bool} (h : aY3 P k w m r l left cnt) : aG2 P k w m l := World.ranges.owns h
theorem bG7 (hg : o.guard = none) (mo : Operand) (t : TypeId) (a7 : o.op = Op.range t mo) (hk : P.underlying k = some .string) (ht : P.underlying t = some (.map k e)) (h : aG2 P k w m l) (hm : a.eval mo = .map (some m))
  (hK : ∀ w' left, aY3 P k w' m w.heap.size l left l.length -> (∀ p ∈ l, left (.string p.1) = true) -> w.grownBy w' none -> w'.heap.size = w.heap.size + 1 -> wpList P ops Q rest (a.put o.dst (.pointer (some ⟨w.heap.size, 0, none⟩))) w') : wpList P ops Q (o :: rest) a w := by
 refine wpList_range_own w hg mo t a7 k e (string_keyed hk) ht cX5 m l.length (bJ2 l) hm h fun w' h1 h2 h3 => hK w' (Maps.has (bJ2 l)) ?_ ?_ h2 h3
 ·unfold aY3
  rw [<- aU9 l] at h1 ⊢;rw [aU9] at h1
  simpa [aU9] using h1
 intro p hp;rw [dB1];unfold aA9;rw [Option.isSome_map, List.isSome_find?, List.any_eq_true];exact ⟨p, hp, by simp⟩
theorem cG7 {α : Type} {l : List (Nm × α)} {n : Nm} {g : α} {left : Lit -> Bool} (hr : aG8 l) (hn : aA9 n l = some g) (hl : left (.string n) = true) :
  (aM5 l left).Perm ((n, g) :: aM5 l (fun z => left z && ! z.sameKey (.string n))) := by
 have a8 := aC7 hn;induction l with
 | nil => cases a8
 | cons y r ih =>
  have d8 : aG8 r := (List.pairwise_cons.1 hr).2;have b8 := (List.pairwise_cons.1 hr).1;by_cases hy : y.1 = n
  ·have e9 : y = (n, g) := by
    unfold aA9 at hn;rw [List.find?_cons_of_pos (by simp [hy])] at hn;simp at hn
    rw [<- hn, <- hy]
   subst e9;have a7 : ∀ p ∈ r, p.1 ≠ n := fun p hp e => by
    have h1 := b8 p hp;rw [e] at h1;rw [show bytesBefore n n = false from WideAt.bytes_irrefl n] at h1;cases h1
   unfold aM5;rw [List.filter_cons_of_pos (by exact hl), List.filter_cons_of_neg (by simp [Lit.sameKey])];refine List.Perm.cons _ ?_;rw [List.filter_congr (fun p hp => ?_)];have := a7 p hp;simp [Lit.sameKey, this]
  have a9 : aA9 n r = some g := by
   unfold aA9 at hn ⊢
   rwa [List.find?_cons_of_neg (by simp [hy])] at hn
  have h2 := ih d8 a9 (aC7 a9);unfold aM5 at h2 ⊢;by_cases hly : left (.string y.1) = true
  ·rw [List.filter_cons_of_pos (by exact hly), List.filter_cons_of_pos (by simp [Lit.sameKey, hly, hy])]
   exact (List.Perm.cons _ h2).trans (List.Perm.swap _ _ _)
  rw [List.filter_cons_of_neg (by exact hly), List.filter_cons_of_neg (by simp [hly])];exact h2
theorem bN7 (hg : o.guard = none) (it : Operand) (d8 : o.op = Op.next it false) (hk : P.underlying k = some .string) {r cnt : Nat} {left : Lit -> Bool} (h : aY3 P k w m r l left cnt) (b8 : a.eval it = .pointer (some ⟨r, 0, none⟩))
  (a7 : (∀ kl, left kl = false) -> wpList P ops Q rest (a.put o.dst (.tuple #[.bool false])) w)
  (a8 : ∀ (s : ByteArray) (g : Nat) (w' : World) (cnt' : Nat), aA9 s.data.toList l = some g -> left (.string s.data.toList) = true -> aY3 P k w' m r l (fun z => left z && ! z.sameKey (.string s.data.toList)) cnt' -> cnt' < cnt →
   w.grownBy w' (some r) -> w'.heap.size = w.heap.size -> (Instr.entry (.pointer (some ⟨r, 0, none⟩))).run P w' = .ok (.tuple #[.string s, .pointer (some ⟨g, 0, none⟩)]) w' -> wpList P ops Q rest (a.put o.dst (.tuple #[.bool true, .string s, .pointer (some ⟨g, 0, none⟩)])) w') : wpList P ops Q (o :: rest) a w := by
 have e9 := h.owns.rising (string_keyed hk);refine wpList_next_ranges w hg it d8 k (string_keyed hk) cX5 Value.string dO2 (fun key kl hkey => by obtain ⟨s, rfl, _⟩ := WideMaps.string_of_keyOf hk hkey; exact ⟨s, rfl⟩) (fun v y hv => cK2 hv) m r l.length (bJ2 l) left cnt b8 h
  (fun _ hl => a7 hl) (fun s c kl y w' cnt' hkey hlk hv hat hrg hlt hgr hsz hen => ?_)
 obtain ⟨s', es, rfl, _⟩ := WideMaps.string_of_keyOf hk hkey;cases es
 have h1 := hat (.agg []);rw [cS5] at h1;rw [dH6] at hv;injection hv with hv
 subst hv;cases hg1 : aA9 s.data.toList l with
 | none =>
  rw [hg1] at h1;cases c <;> simp at h1
 | some g =>
  rw [hg1] at h1;cases c with
  | none => simp at h1
  | some g' =>
   have a9 : g' = g := by
    simp at h1
    omega
   subst a9;exact a8 s g' w' cnt' hg1 hlk hrg hlt hgr hsz hen
end
end
section
structure FD where
 b : List UInt8
 safe : Nat
structure PWD where
 off : Bool
 armed : Bool
 acts : Int
 part : Int
structure DkD where
 pw : PWD
 room : Int
 fs : List (Nm × FD)
def PWD.cut (p : PWD) : Bool × Int × PWD := if p.armed = false then (false, 0, p) else if 0 < p.acts then (false, 0, { p with acts := p.acts - 1 }) else (true, p.part, { p with armed := false, off := true })
def aB7 : List (Nm × FD) -> Int
 | [] => 0
 | q :: r => (q.2.b.length : Int) + aB7 r
def DkD.free (d : DkD) : Int := d.room - aB7 d.fs
def fits : Int -> List (List UInt8) -> Bool
 | _, [] => true
 | left, p :: r => decide ((p.length : Int) <= left) && fits (left - p.length) r
def cQ4 (part : Int) (p : List UInt8) : List UInt8 := p.take (part % (p.length + 1)).toNat
def DkD.append (d : DkD) (n : Nm) (parts : List (List UInt8)) : Int × DkD :=
 if d.pw.off = true then (50, d) else if n = [] ∨ 32 < n.length then (1, d) else if fits d.free parts = false then (52, d)
 else (if d.pw.cut.1 = true then 50 else 0, ⟨d.pw.cut.2.2, d.room, aB3 n ⟨((aA9 n d.fs).getD ⟨[], 0⟩).b ++ (if d.pw.cut.1 = true then cQ4 d.pw.cut.2.1 parts.flatten else parts.flatten), ((aA9 n d.fs).getD ⟨[], 0⟩).safe⟩ d.fs⟩)
def DkD.sync (d : DkD) (n : Nm) : Int × DkD :=
 if d.pw.off = true then (50, d) else match aA9 n d.fs with
 | none => (51, d)
 | some f => if d.pw.cut.1 = true then (50, { d with pw := d.pw.cut.2.2 }) else (0, ⟨d.pw.cut.2.2, d.room, aB3 n ⟨f.b, f.b.length⟩ d.fs⟩)
def DkD.whole (d : DkD) (fs : List (Nm × FD)) : Int × DkD :=
 (if d.pw.cut.1 = true then 50 else 0, ⟨d.pw.cut.2.2, d.room, if d.pw.cut.1 = false ∨ d.pw.cut.2.1 % 2 ≠ 0 then fs else d.fs⟩)
def DkD.cutF (d : DkD) (n : Nm) (k : Int) : Int × DkD :=
 if d.pw.off = true then (50, d) else match aA9 n d.fs with
 | none => (51, d)
 | some f => if k < 0 ∨ (f.b.length : Int) < k then (1, d) else d.whole (aB3 n ⟨f.b.take k.toNat, min f.safe k.toNat⟩ d.fs)
def DkD.rename (d : DkD) (a b : Nm) : Int × DkD :=
 if d.pw.off = true then (50, d) else match aA9 a d.fs with
 | none => (51, d)
 | some f => if b = [] ∨ 32 < b.length ∨ a = b then (1, d) else d.whole (aB3 b f (aB6 a d.fs))
def DkD.remove (d : DkD) (n : Nm) : Int × DkD :=
 if d.pw.off = true then (50, d) else match aA9 n d.fs with
 | none => (51, d)
 | some f => d.whole (aB6 n d.fs)
def DkD.read (d : DkD) (n : Nm) : List UInt8 × Int :=
 if d.pw.off = true then ([], 50) else match aA9 n d.fs with
 | none => ([], 51)
 | some f => (f.b, 0)
theorem cP4 {a b : List (Nm × FD)} (h : a.Perm b) : aB7 a = aB7 b := by
 induction h with
 | nil => rfl
 | cons x _ ih => simp [aB7, ih]
 | swap x y l => simp [aB7]; omega
 | trans _ _ h1 h2 => rw [h1, h2]
theorem aE5 : ∀ l : List (Nm × FD), 0 <= aB7 l
 | [] => Int.le_refl _
 | q :: r => by
  have := aE5 r;unfold aB7;omega
end
end Go.Proofs.YtgeofijddhflaaaGreatDoor
