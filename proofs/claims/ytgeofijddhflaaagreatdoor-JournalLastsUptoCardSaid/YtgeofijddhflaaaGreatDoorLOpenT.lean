/- Opening an argument that is a journal's act by value. No condition. -/
import Derived.Test.YtgeofijddhflaaaGreatDoorLCalcFacts
import Derived.Test.YtgeofijddhflaaaGreatDoorLKeepRPieces
import Derived.Test.YtgeofijddhflaaaGreatDoorLDiskApp
import Derived.Lib.ItoaLen
import Derived.Deep.DeepMust
set_option linter.unusedVariables false
set_option linter.unusedSimpArgs false
set_option maxHeartbeats 8000000
set_option maxRecDepth 100000
namespace Go.Proofs.YtgeofijddhflaaaGreatDoor
section
open Oct
structure aF9 where
 ix : Int
 tm : Int
 kd : Int
 b : List UInt8
structure aB1 where
 k : Int
 first : Int
 term : Int
 l : List aF9
 ends : List Int
def aH1 (l : List Int) : List UInt8 := (l.map fun n => enc (fold1 n)).flatten
def aE4 (first term : Int) : List UInt8 := aF2 (cC2 first ++ aH1 [term])
def aC9 (e : aF9) : List UInt8 := aF2 (aH1 [e.tm, e.kd] ++ bP5 e.b)
def aP4 (term vote : Int) : List UInt8 := aF2 (aH1 [term, vote])
def aB1.long (s : aB1) : Int := s.ends.getLastD 0
def aB1.last (s : aB1) : Int × Int := match s.l.getLast? with
 | none => (s.first - 1, s.term)
 | some e => (e.ix, e.tm)
def aB1.aheadN (s : aB1) (ix : Int) : Nat := min (ix - s.first).toNat s.l.length
def aB1.ahead (s : aB1) (ix : Int) : aB1 := { s with l := s.l.take (s.aheadN ix), ends := s.ends.take (s.aheadN ix + 1) }
def aB1.goesOn (s t : aB1) : Bool := decide (s.first - 1 = t.last.1) && decide (s.term = t.last.2)
def aA1 (k : Int) : Nm := 106 :: Lib.itoa k
def aO9 : Nm := [109, 101, 116, 97]
def aA3 : Nm := [109, 101, 116, 97, 46, 110, 101, 119]
def bH8 : Nm -> Int
 | [] => 0
 | c :: r => if r.length < 1 ∨ 9 < r.length ∨ c ≠ 106 then 0 else if (aF5 r).2.2 ≠ 0 ∨ (aF5 r).2.1 ≠ (r.length : Int) then 0 else (aF5 r).1
def aD9 : Nat -> List UInt8 -> List Int × Option (List UInt8)
 | 0, b => ([], some b)
 | n + 1, b => if (aB9 maxU b).2.2 ≠ 0 ∨ aI4 (aB9 maxU b).1 < 0 then ([], none) else
  (aI4 (aB9 maxU b).1 :: (aD9 n (b.drop (aB9 maxU b).2.1)).1, (aD9 n (b.drop (aB9 maxU b).2.1)).2)
def aD6 : Int := 9223372036854775807
def aK1 (p : List UInt8) : Option (Int × Int) :=
 if (aB9 maxI p).2.2 ≠ 0 ∨ (aB9 maxI p).1 < 1 ∨ ((aB9 maxI p).1 : Int) = aD6 then none else
 match aD9 1 (p.drop (aB9 maxI p).2.1) with
 | ([t], some []) => some ((aB9 maxI p).1, t)
 | _ => none
def aH9 (p : List UInt8) (at_ : Int) : Option aF9 :=
 match aD9 2 p with
 | ([t, k], some r) => if (aH5 r).2.2 ≠ 0 ∨ (aH5 r).2.1 ≠ r.length ∨ aD6 - 1 <= at_ then none else some ⟨at_ + 1, t, k, (aH5 r).1⟩
 | _ => none
def aK2 : List (List UInt8) -> Int -> aB1 -> Option aB1
 | [], _, s => some s
 | p :: r, a, s => match aH9 p s.last.1 with
  | none => none
  | some e => aK2 r (a + (aF2 p).length) { s with l := s.l ++ [e], ends := s.ends ++ [a + (aF2 p).length] }
def aD0 (k : Int) (b : List UInt8) : Option (aB1 × Bool) :=
 match (aH6 b).1 with
 | [] => some (⟨k, 0, 0, [], []⟩, decide ((aH6 b).2.2 ≠ 0))
 | p :: r => match aK1 p with
  | none => none
  | some (f, t) => (aK2 r (aF2 p).length ⟨k, f, t, [], [((aF2 p).length : Int)]⟩).map fun s => (s, decide ((aH6 b).2.2 ≠ 0))
def aC6 : List (Nm × FD) -> Option (List (aB1 × Bool))
 | [] => some []
 | q :: r => if bH8 q.1 = 0 then aC6 r else match aD0 (bH8 q.1) q.2.b with
  | none => none
  | some s => (aC6 r).map (s :: ·)
def aK0 : List (aB1 × Bool) -> Bool
 | a :: b :: r => decide (a.1.k = b.1.k - 1) && ! a.2 && ! a.1.ends.isEmpty && aK0 (b :: r)
 | _ => true
def aX5 (d : DkD) : Option (List (aB1 × Bool)) := match aC6 d.fs with
 | none => none
 | some l => if aK0 (l.mergeSort fun x y => decide (x.1.k <= y.1.k)) = true then some (l.mergeSort fun x y => decide (x.1.k <= y.1.k)) else none
def aH2 (d : DkD) : Option (Int × Int) := match d.read aO9 with
 | (b, e) => if e ≠ 0 then some (0, 0) else if (aD7 b).2.2 ≠ 0 ∨ (aD7 b).2.1 ≠ b.length then none else
  match aD9 2 (aD7 b).1 with
  | ([t, v], some []) => some (t, v)
  | _ => none
inductive aC3
 | rm (n : Nm)
 | cut (n : Nm) (k : Int)
 | sync (n : Nm)
 | app (n : Nm) (p : List UInt8)
 | ren
def aC3.run (d : DkD) : aC3 -> Int × DkD
 | .rm n => d.remove n
 | .cut n k => d.cutF n k
 | .sync n => d.sync n
 | .app n p => d.append n [p]
 | .ren => d.rename aA3 aO9
def aG1 : List aC3 -> DkD -> Int × DkD
 | [], d => (0, d)
 | a :: r, d => if (a.run d).1 = 0 then aG1 r (a.run d).2 else a.run d
structure JnP where
 term : Int
 vote : Int
 segs : List aB1
 bad : Int
def aE0 : List aB1 -> List aB1 -> List aB1
 | acc, [] => acc
 | acc, s :: r => aE0 (match acc.getLast? with | none => [s] | some t => if s.goesOn t = true then acc ++ [s] else [s]) r
def aG3 (l : List (aB1 × Bool)) (m : Int × Int) (d : DkD) : Int × Option JnP × DkD :=
 let segs := aE0 [] (l.map (·.1))
 let acts := ((l.take (l.length - segs.length)).map fun f => aC3.rm (aA1 f.1.k)) ++ (match l.getLast? with
  | none => []
  | some f => (if f.2 = true then [.cut (aA1 f.1.k) f.1.long] else []) ++ [.sync (aA1 f.1.k)])
 let r := aG1 acts d
 (r.1, if r.1 = 0 then some ⟨m.1, m.2, segs, 0⟩ else none, r.2)
def aS9 (d : DkD) : Int × Option JnP × DkD := match aH2 d, aX5 d with
 | some m, some l => (match l.getLast? with
  | none => aG3 l m d
  | some f => if f.1.ends.isEmpty = true then (if (d.remove (aA1 f.1.k)).1 = 0 then aG3 l.dropLast m (d.remove (aA1 f.1.k)).2 else ((d.remove (aA1 f.1.k)).1, none, (d.remove (aA1 f.1.k)).2)) else aG3 l m d)
 | _, _ => (53, none, d)
def aL5 (d : DkD) : Int × Option JnP × DkD :=
 if d.pw.off = true then (50, none, d) else if (d.fs.any fun q => q.1 == aA3) = true then
  (if (d.remove aA3).1 = 0 then aS9 (d.remove aA3).2 else ((d.remove aA3).1, none, (d.remove aA3).2)) else aS9 d
def aE2 (j : JnP) (d : DkD) (term vote : Int) : Int × JnP × DkD :=
 if j.bad ≠ 0 then (j.bad, j, d) else if term < 0 ∨ vote < 0 then (1, j, d) else
 let p := aP4 term vote
 if d.free + (d.read aA3).1.length < p.length then (52, j, d) else
 let r := aG1 ((if (d.read aA3).2 = 0 then [.rm aA3] else []) ++ [.app aA3 p, .sync aA3, .ren]) d
 (r.1, if r.1 = 0 then ⟨term, vote, j.segs, 0⟩ else { j with bad := r.1 }, r.2)
def JnP.base (j : JnP) : Int × Int := match j.segs with
 | [] => (0, 0)
 | s :: _ => (s.first - 1, s.term)
def JnP.last (j : JnP) : Int × Int := match j.segs.getLast? with
 | none => (0, 0)
 | some s => s.last
def JnP.ents (j : JnP) : List aF9 := (j.segs.map aB1.l).flatten
def aR8 (base : Int) : List aF9 -> Int -> Option Int -> Bool
 | [], _, _ => true
 | e :: r, last, prev => !(decide (e.ix <= base) || decide (last < e.ix - 1) || decide (e.ix = aD6) || (match prev with | none => false | some p => decide (e.ix - 1 ≠ p)) || decide (e.tm < 0) || decide (e.kd < 0)) && aR8 base r e.ix (some e.ix)
def bT8 (j : JnP) (l : List aF9) : Int := if aR8 j.base.1 l j.last.1 none = false then 1 else if (l.any fun e => decide (65535 < e.b.length)) = true then 2 else 0
def aN9 (segs : List aB1) (ix : Int) : Nat -> Nat
 | 0 => 0
 | 1 => 1
 | n + 2 => match segs[n + 1]? with
  | some s => if ix <= s.first then aN9 segs ix (n + 1) else n + 2
  | none => n + 2
def aA6 : aB1 -> List aF9 -> aB1
 | s, [] => s
 | s, e :: r => aA6 { s with l := s.l ++ [e], ends := s.ends ++ [s.long + (aC9 e).length] } r
def aI9 (j : JnP) (d : DkD) (l : List aF9) : Int × JnP × DkD :=
 if j.bad ≠ 0 then (j.bad, j, d) else if bT8 j l ≠ 0 then (bT8 j l, j, d) else match l with
 | [] => (0, j, d)
 | e0 :: _ =>
  let n := aN9 j.segs e0.ix j.segs.length
  let gone := (j.segs.drop n).reverse
  let freed1 := (gone.map aB1.long).foldl (· + ·) 0
  let do1 := gone.map fun s => aC3.rm (aA1 s.k)
  let kept := j.segs.take n
  let cut := kept.getLast?.map fun s => (s, s.ahead e0.ix)
  let freed := freed1 + (match cut with | some (s, c) => if c.long < s.long then s.long - c.long else 0 | none => 0)
  let do2 := match cut with | some (s, c) => (if c.long < s.long then [aC3.cut (aA1 s.k) c.long] else []) | none => []
  let kept2 := match cut with | some (_, c) => kept.dropLast ++ [c] | none => kept
  let new := match cut with | some (_, c) => decide (600 <= c.long) | none => true
  let fk := match cut with | some (s, _) => s.k + 1 | none => 1
  let ft := match cut with | some (_, c) => c.last.2 | none => 0
  let hd := aE4 e0.ix ft
  let s0 : aB1 := if new = true then ⟨fk, e0.ix, ft, [], [(hd.length : Int)]⟩ else (match cut with | some (_, c) => c | none => ⟨fk, e0.ix, ft, [], []⟩)
  let b := (if new = true then hd else []) ++ (l.map aC9).flatten
  let s1 := aA6 s0 l
  let segs := (if new = true then kept2 else kept2.dropLast) ++ [s1]
  if 999999999 < s1.k then (1, j, d) else if d.free + freed < (b.length : Int) then (52, j, d) else
  let r := aG1 (do1 ++ do2 ++ [.app (aA1 s1.k) b, .sync (aA1 s1.k)]) d
  (r.1, if r.1 = 0 then { j with segs := segs } else { j with bad := r.1 }, r.2)
def aW4 (j : JnP) (ix : Int) : Option Int := if j.base.1 = ix then some j.base.2 else
 j.segs.findSome? fun s => if 0 <= ix - s.first ∧ ix - s.first < (s.l.length : Int) then (s.l[(ix - s.first).toNat]?).map aF9.tm else none
def aV5 (segs : List aB1) (ix : Int) : Nat -> Nat -> Nat
 | 0, f => f
 | fuel + 1, f => match segs[f + 1]? with
  | some s => if s.first <= ix + 1 then aV5 segs ix fuel (f + 1) else f
  | none => f
def aF8 (j : JnP) (d : DkD) (ix term : Int) : Int × JnP × DkD :=
 if j.bad ≠ 0 then (j.bad, j, d) else if ix < j.base.1 ∨ aD6 - 2 < ix ∨ term < 0 ∨ (ix = j.base.1 ∧ (aW4 j ix).getD 0 ≠ term) then (1, j, d) else
 let new := decide (j.last.1 < ix) || (match aW4 j ix with | some t => decide (t ≠ term) | none => false)
 let hd := aE4 (ix + 1) term
 let s : aB1 := ⟨match j.segs.getLast? with | some x => x.k + 1 | none => 1, ix + 1, term, [], [(hd.length : Int)]⟩
 if new = true ∧ 999999999 < s.k then (1, j, d) else if new = true ∧ d.free < (hd.length : Int) then (52, j, d) else
 let segs := if new = true then j.segs ++ [s] else j.segs
 let from_ := aV5 segs ix segs.length (if new = true then j.segs.length else 0)
 let r := aG1 ((if new = true then [.app (aA1 s.k) hd, .sync (aA1 s.k)] else []) ++ (segs.take from_).map fun x => aC3.rm (aA1 x.k)) d
 (r.1, if r.1 = 0 then { j with segs := segs.drop from_ } else { j with bad := r.1 }, r.2)
end
section
open Oct
structure JDk (L : Nat) (d : DkD) : Prop where
 sz : aB7 d.fs <= (L : Int)
 len : d.fs.length <= L
 nm : ∀ q ∈ d.fs, q.1.length <= 1000
theorem aP3 {q : Nm × FD} : ∀ {l : List (Nm × FD)}, q ∈ l -> (q.2.b.length : Int) <= aB7 l
 | x :: r, h => by
  have hn := aE5 r;unfold aB7;rcases List.mem_cons.1 h with rfl | h
  ·omega
  have := aP3 h;omega
theorem bA6 (f : Nm × FD -> Bool) : ∀ l : List (Nm × FD), aB7 (l.filter f) <= aB7 l
 | [] => Int.le_refl _
 | x :: r => by
  have := bA6 f r;by_cases h : f x = true
  ·rw [List.filter_cons_of_pos h]
   simp only [aB7];omega
  rw [List.filter_cons_of_neg h];simp only [aB7];omega
theorem aX0 (n : Nm) (l : List (Nm × FD)) : aB7 (aB6 n l) <= aB7 l := bA6 _ l
theorem bT1 {α : Type} (n : Nm) (l : List (Nm × α)) : (aB6 n l).length <= l.length := List.length_filter_le _ _
theorem bQ4 (x : Nm × FD) : ∀ l : List (Nm × FD), aB7 (asIns x l) = x.2.b.length + aB7 l
 | [] => by simp [asIns, aB7]
 | y :: r => by
  have := bQ4 x r;unfold asIns;split
  ·simp [aB7]
  simp only [aB7];omega
theorem bC5 (n : Nm) (f : FD) (l : List (Nm × FD)) : aB7 (aB3 n f l) = f.b.length + aB7 (aB6 n l) := bQ4 _ _
theorem cJ7 {α : Type} (n : Nm) (f : α) (l : List (Nm × α)) : (aB3 n f l).length <= l.length + 1 := by
 unfold aB3;rw [aQ1];have := bT1 n l;omega
theorem aV8 {α : Type} {n : Nm} {f f' : α} {l : List (Nm × α)} (h : aA9 n l = some f) : (aB3 n f' l).length <= l.length := by
 unfold aB3;rw [aQ1];have hm := aC7 h;have : (aB6 n l).length < l.length := by
  refine Nat.lt_of_le_of_ne (bT1 n l) fun e => ?_
  have h1 := List.filter_eq_self.1 (List.Sublist.eq_of_length (List.filter_sublist (p := fun p : Nm × α => !(p.1 == n)) (l := l)) e) _ hm;simp at h1
 omega
theorem aL2 {n : Nm} {f : FD} : ∀ {l : List (Nm × FD)}, aA9 n l = some f -> (f.b.length : Int) + aB7 (aB6 n l) <= aB7 l
 | [], h => by cases h
 | x :: r, h => by
  unfold aA9 at h;by_cases hx : (x.1 == n) = true
  ·rw [List.find?_cons_of_pos (p := fun p : Nm × FD => p.1 == n) hx] at h
   simp at h
   subst h;have h1 := aX0 n r;unfold aB6 at h1 ⊢;rw [List.filter_cons_of_neg (by simp [hx])];simp only [aB7];omega
  rw [List.find?_cons_of_neg (p := fun p : Nm × FD => p.1 == n) hx] at h;have := aL2 (l := r) h;unfold aB6 at this ⊢;rw [List.filter_cons_of_pos (by simpa using hx)];simp only [aB7];omega
def aC3.cost : aC3 -> Nat
 | .app _ p => p.length + 1
 | _ => 0
def aF4 (l : List aC3) : Nat := (l.map aC3.cost).sum
section
variable {L : Nat} {d : DkD}
theorem JDk.mono {L' : Nat} (h : JDk L d) (hN : L <= L') : JDk L' d := ⟨by have := h.sz; omega, Nat.le_trans h.len hN, h.nm⟩
theorem JDk.pw (h : JDk L d) (p : PWD) : JDk L { d with pw := p } := ⟨h.sz, h.len, h.nm⟩
theorem JDk.del (h : JDk L d) (n : Nm) : JDk L { d with fs := aB6 n d.fs } :=
 ⟨Int.le_trans (aX0 n _) h.sz, Nat.le_trans (bT1 n _) h.len, fun q hq => h.nm q (aI5.1 hq).1⟩
theorem JDk.put (h : JDk L d) (n : Nm) (f : FD) (hn : n.length <= 1000) {M : Nat} (hf : (f.b.length : Int) + aB7 (aB6 n d.fs) <= (M : Int)) (hM : (aB3 n f d.fs).length <= M) : JDk M { d with fs := aB3 n f d.fs } :=
 ⟨by rw [bC5]; exact hf, hM, fun q hq => by
  rcases asPut_mem.1 hq with rfl | hq
  ·exact hn
  exact h.nm q hq.1⟩
theorem JDk.whole (h : JDk L d) {fs : List (Nm × FD)} (hf : JDk L { d with fs := fs }) : JDk L (d.whole fs).2 := by
 have h1 := h.pw d.pw.cut.2.2;have h2 := hf.pw d.pw.cut.2.2;unfold DkD.whole;by_cases hc : d.pw.cut.1 = false ∨ d.pw.cut.2.1 % 2 ≠ 0
 ·simp only [if_pos hc]
  exact h2
 simp only [if_neg hc];exact h1
theorem dC3 (n : Nm) (l : List (Nm × FD)) : ((((aA9 n l).getD ⟨[], 0⟩).b.length : Nat) : Int) + aB7 (aB6 n l) <= aB7 l := by
 cases e : aA9 n l with
 | none =>
  have := aX0 n l;simp
  omega
 | some f => simpa using aL2 e
theorem cU5 (h : JDk L d) {n : Nm} {f : FD} (e : aA9 n d.fs = some f) : n.length <= 1000 := h.nm (n, f) (aC7 e)
theorem JDk.run (h : JDk L d) (a : aC3) : JDk (L + a.cost) (a.run d).2 := by
 cases a with
 | rm n =>
  show JDk L (d.remove n).2
  unfold DkD.remove;split
  ·exact h
  split
  ·exact h
  exact h.whole (h.del n)
 | cut n k =>
  show JDk L (d.cutF n k).2
  unfold DkD.cutF;split
  ·exact h
  split
  ·exact h
  rename_i f hf
  split
  ·exact h
  refine h.whole (h.put n _ (cU5 h hf) ?_ (Nat.le_trans (aV8 hf) h.len));have h1 := aL2 hf;have h2 := h.sz;simp only [lV];omega
 | sync n =>
  show JDk L (d.sync n).2
  unfold DkD.sync;split
  ·exact h
  split
  ·exact h
  rename_i f hf
  split
  ·exact h.pw _
  refine (h.put n _ (cU5 h hf) ?_ (Nat.le_trans (aV8 hf) h.len)).pw _;have h1 := aL2 hf;have h2 := h.sz;simp only;omega
 | app n p =>
  show JDk (L + (p.length + 1)) (d.append n [p]).2
  have hm : JDk (L + (p.length + 1)) d := h.mono (by omega);unfold DkD.append;split
  ·exact hm
  split
  ·exact hm
  rename_i hnm
  split
  ·exact hm
  have b8 := h.sz;have a8 := h.len;have a9 := dC3 n d.fs;have d8 : (cQ4 d.pw.cut.2.1 [p].flatten).length <= p.length := by
   unfold cQ4;rw [lV];simp
   omega
  refine (h.put n _ (by omega) ?_ (by have := cJ7 n (⟨((aA9 n d.fs).getD ⟨[], 0⟩).b ++ (if d.pw.cut.1 = true then cQ4 d.pw.cut.2.1 [p].flatten else [p].flatten), ((aA9 n d.fs).getD ⟨[], 0⟩).safe⟩ : FD) d.fs; omega)).pw _;have a7 : [p].flatten = p := by simp
  simp only [lT];split
  ·push_cast; omega
  rw [a7]; push_cast; omega
 | ren =>
  show JDk L (d.rename aA3 aO9).2
  unfold DkD.rename;split
  ·exact h
  split
  ·exact h
  rename_i f hf
  split
  ·exact h
  have hd := h.del aA3;refine h.whole (hd.put aO9 f (by decide) ?_ ?_)
  ·have h1 := aL2 hf
   have h2 := aX0 aO9 (aB6 aA3 d.fs);have := h.sz;simp only;omega
  have h1 := cJ7 aO9 f (aB6 aA3 d.fs);have h2 := aV8 (f' := f) hf;have h3 := h.len;unfold aB3 at h2;rw [aQ1] at h2;simp only;omega
theorem JDk.runs : ∀ (l : List aC3) {L : Nat} {d : DkD}, JDk L d -> JDk (L + aF4 l) (aG1 l d).2
 | [], L, d, h => h
 | a :: r, L, d, h => by
  have e : L + aF4 (a :: r) = L + a.cost + aF4 r := by unfold aF4; simp; omega
  unfold aG1;rw [e];split
  ·exact JDk.runs r (h.run a)
  exact (h.run a).mono (by omega)
end
end
section
open Go.RowKit Oct
def RdF (w : World) (F : Nat -> Prop) (A : Option Addr) (xs : List Value) : Prop := 0 < xs.length -> ∃ b o, A = some ⟨b, o, none⟩ ∧ F b ∧ b < w.heap.size ∧ ∀ j u, xs[j]? = some u -> w.cell? ⟨b, o + j, none⟩ = some u
theorem add_lit (b o j : Nat) : (⟨b, o, none⟩ : Addr).add j = ⟨b, o + j, none⟩ := by
 unfold Addr.add;by_cases h : j = 0
 ·subst h; rfl
 simp [h]
section
variable {w w' : World} {F F' : Nat -> Prop} {A : Option Addr} {xs : List Value}
theorem RdF.rd (h : RdF w F A xs) : Rd w w.heap.size A xs := fun h0 => by
 obtain ⟨b, o, e, _, hlt, hc⟩ := h h0;exact ⟨⟨b, o, none⟩, e, hlt, fun j u hu => by rw [add_lit]; exact hc j u hu⟩
theorem RdF.keep (h : RdF w F A xs) (hs : w.heap.size <= w'.heap.size) (hk : ∀ k, F k -> w'.heap[k]? = w.heap[k]?) : RdF w' F A xs := fun h0 => by
 obtain ⟨b, o, e, hF, hlt, hc⟩ := h h0;exact ⟨b, o, e, hF, by omega, fun j u hu => (World.cell?_of_block (w := w) (hk b hF)).trans (hc j u hu)⟩
theorem RdF.mono (h : RdF w F A xs) (hF : ∀ k, F k -> F' k) : RdF w F' A xs := fun h0 => by
 obtain ⟨b, o, e, h1, hlt, hc⟩ := h h0;exact ⟨b, o, e, hF b h1, hlt, hc⟩
theorem RdF.nil : RdF w F A [] := fun h => absurd h (by simp)
theorem RdF.take (h : RdF w F A xs) (k : Nat) : RdF w F A (xs.take k) := fun h0 => by
 rw [lV] at h0;obtain ⟨b, o, e, h1, hlt, hc⟩ := h (by omega);exact ⟨b, o, e, h1, hlt, fun j u hu => hc j u (by
  rw [List.getElem?_take] at hu;split at hu
  ·exact hu
  cases hu)⟩
theorem RdF.of_own {base : Nat} {e : TypeId} {n c : Nat} (h : Own w base e (.slice A n c) xs) (hF : ∀ k, base <= k -> k < w.heap.size -> F k) : RdF w F A xs := fun h0 => by
 rcases Own.whole h with ⟨h1, h2⟩ | ⟨g, cap, cur, h1, h2, h3, h4, _⟩
 ·rw [h2] at h0
  simp at h0
 obtain ⟨A', c', hv, _, _, hr⟩ := Own.shape h;injection h1 with e1 _ _
 injection hv with e2 _ _
 obtain ⟨ad, e3, hlt, hc⟩ := hr h0;rw [<- e2, e1] at e3;injection e3 with e3
 subst e3;exact ⟨g, 0, e1, hF g h2 h3, h3, fun j u hu => by rw [<- add_lit]; exact hc j u hu⟩
theorem RdF.of_row {base : Nat} {e : TypeId} {size n m c : Nat} (h : w.ownsRow base e size (.slice A m c) n xs) (hF : ∀ k, base <= k -> k < w.heap.size -> F k) (hn : n * size = xs.length) : RdF w F A xs := fun h0 => by
 rcases h.2 with ⟨h1, h2⟩ | ⟨g, cap, cur, h1, h2, h3, h4, h5, h6, h7⟩
 ·subst h2
  omega
 have hk := h1;injection h1 with e1 e2 e3
 have hlt := (Array.getElem?_eq_some_iff.1 h3).1;exact ⟨g, 0, e1, hF g h2 hlt, hlt, fun j u hu => by
  have hj := (List.getElem?_eq_some_iff.1 hu).1;have h8 := World.ownsRow.cellAt (hk ▸ h) (0 + j) (by omega);rw [h8, Nat.zero_add];exact hu⟩
end
def bB7 (w : World) (F : Nat -> Prop) (v : Value) (l : List UInt8) : Prop := ∃ A c, v = .slice A l.length c ∧ l.length <= c ∧ c <= 9223372036854775807 ∧ RdF w F A (cells l)
structure aD8 where
 v : Value
 e : aF9
def aM6 (q : aD8) : List Value := [.int .i64 q.e.ix, .int .i64 q.e.tm, .int .i64 q.e.kd, q.v]
def aA7 (l : List aD8) : List Value := l.flatMap aM6
theorem aC0 (l : List aD8) : (aA7 l).length = 4 * l.length := by
 induction l with
 | nil => rfl
 | cons x r ih => unfold aA7 at ih ⊢; rw [List.flatMap_cons, lT, ih]; simp [aM6]; omega
theorem aE6 (l : List aD8) {k : Nat} (hk : k < l.length) {j : Nat} (hj : j < 4) : (aA7 l)[k * 4 + j]? = (aM6 l[k])[j]? := by
 induction l generalizing k with
 | nil => simp at hk
 | cons x r ih =>
  unfold aA7 at ih ⊢;rw [List.flatMap_cons];cases k with
  | zero => rw [List.getElem?_append_left (by simp [aM6]; omega)]; simp
  | succ k =>
   rw [List.getElem?_append_right (by simp [aM6]; omega)];have : (k + 1) * 4 + j - (aM6 x).length = k * 4 + j := by simp [aM6]; omega
   rw [this, ih (by simpa using hk)]
   rfl
theorem aJ6 (a b : List aD8) : aA7 (a ++ b) = aA7 a ++ aA7 b := by unfold aA7; rw [List.flatMap_append]
theorem aV2 (l : List aD8) (k : Nat) : (aA7 l).take (k * 4) = aA7 (l.take k) := by
 induction l generalizing k with
 | nil => simp [aA7]
 | cons x r ih =>
  cases k with
  | zero => simp [aA7]
  | succ k =>
   have := ih k;unfold aA7 at this ⊢;rw [List.take_succ_cons, List.flatMap_cons, List.flatMap_cons, <- this, List.take_append];have h4 : (aM6 x).length = 4 := rfl;rw [h4, List.take_of_length_le (by rw [h4]; omega), show (k + 1) * 4 - 4 = k * 4 by omega]
structure bG2 (s : aB1) : Prop where
 k : -9223372036854775808 <= s.k ∧ s.k <= 9223372036854775807
 first : 0 <= s.first ∧ s.first <= 9223372036854775806
 term : -9223372036854775808 <= s.term ∧ s.term <= 9223372036854775807
 ent : ∀ e ∈ s.l, (-9223372036854775808 <= e.ix ∧ e.ix <= 9223372036854775807) ∧ (-9223372036854775808 <= e.tm ∧ e.tm <= 9223372036854775807) ∧ (-9223372036854775808 <= e.kd ∧ e.kd <= 9223372036854775807)
 ends : ∀ n ∈ s.ends, 0 <= n ∧ n <= 4611686018427387904
structure aT7 (w : World) (F : Nat -> Prop) (ad : Addr) (s : aB1) : Prop where
 at_ : ∃ Al cl rs Ae ce, RdF w F (some ad) [.int .i64 s.k, .int .i64 s.first, .int .i64 s.term, .slice Al s.l.length cl, .slice Ae s.ends.length ce] ∧ s.l.length <= cl ∧ cl <= maxLen ∧ s.ends.length <= ce ∧ ce <= maxLen ∧ RdF w F Al (aA7 rs) ∧ rs.map aD8.e = s.l ∧ (∀ q ∈ rs, bB7 w F q.v q.e.b) ∧ RdF w F Ae (s.ends.map (Value.int .i64))
 num : bG2 s
section
variable {w w' : World} {F F' : Nat -> Prop} {ad : Addr} {s : aB1}
theorem bB7.keep {v : Value} {l : List UInt8} (h : bB7 w F v l) (hs : w.heap.size <= w'.heap.size) (hk : ∀ k, F k -> w'.heap[k]? = w.heap[k]?) : bB7 w' F v l := by
 obtain ⟨A, c, h1, h2, h3, h4⟩ := h;exact ⟨A, c, h1, h2, h3, h4.keep hs hk⟩
theorem bB7.mono {v : Value} {l : List UInt8} (h : bB7 w F v l) (hF : ∀ k, F k -> F' k) : bB7 w F' v l := by
 obtain ⟨A, c, h1, h2, h3, h4⟩ := h;exact ⟨A, c, h1, h2, h3, h4.mono hF⟩
theorem aT7.keep (h : aT7 w F ad s) (hs : w.heap.size <= w'.heap.size) (hk : ∀ k, F k -> w'.heap[k]? = w.heap[k]?) : aT7 w' F ad s := by
 obtain ⟨⟨Al, cl, rs, Ae, ce, h1, h2, h3, h4, h5, h6, h7, h8, h9⟩, hn⟩ := h;exact ⟨⟨Al, cl, rs, Ae, ce, h1.keep hs hk, h2, h3, h4, h5, h6.keep hs hk, h7, fun q hq => (h8 q hq).keep hs hk, h9.keep hs hk⟩, hn⟩
theorem aT7.mono (h : aT7 w F ad s) (hF : ∀ k, F k -> F' k) : aT7 w F' ad s := by
 obtain ⟨⟨Al, cl, rs, Ae, ce, h1, h2, h3, h4, h5, h6, h7, h8, h9⟩, hn⟩ := h;exact ⟨⟨Al, cl, rs, Ae, ce, h1.mono hF, h2, h3, h4, h5, h6.mono hF, h7, fun q hq => (h8 q hq).mono hF, h9.mono hF⟩, hn⟩
end
end
section
open Go.RowKit Oct
theorem cN4 (A : Option Addr) (ns : List Nm) (c : Nat) (x : Nm) (w : World) (hr : Rd w w.heap.size A (ns.map fun n => .string (str n))) (hl : ns.length <= 4611686018427387904) :
  Calls Tryz.prog 93 #[.slice A ns.length c, .string (str x)] w fun e w' => (∃ r : Int, e = .returned (.int .i64 r) ∧ decide (0 <= r) = ns.any fun n => n == x) ∧ w = w' := by
 have HR := qZ hr;clear hr;go_enter Tryz.func93, Tryz.ntmps93
 go_wp2_with fail
 go_loopw [8, 5] (fun i _ wr => ∃ k : Nat, k <= ns.length ∧ i = .int .i64 k ∧ Hid ((ns.take k).any (fun n => n == x) = false) ∧ wr = w) (fun i _ _ => ns.length - (intOf i).toNat)
 case atStart => exact ⟨0, by omega, rfl, qZ rfl, rfl⟩
 obtain ⟨k, hk, rfl, HA, rfl⟩ := hrel;by_cases hlt : k < ns.length
 rotate_left
 ·obtain rfl : k = ns.length := by omega
  go_wp2_with fail
  go_ret
  have h1 := HA.out;rw [List.take_length] at h1;refine ⟨⟨_, rfl, ?_⟩, rfl⟩;rw [h1]
  decide
 obtain ⟨ad, rfl, d8, a9⟩ := HR.out.at_ (k := k) (by rw [lU]; exact hlt);rw [List.getElem_map] at a9;have a7 : ns.take (k + 1) = ns.take k ++ [ns[k]] := by
  rw [List.take_add_one, lW hlt]
  rfl
 obtain ⟨y, hy⟩ : ∃ y, y = ns[k] := ⟨_, rfl⟩
 rw [<- hy] at a9 a7;have a8 := qZ a7;have b8 := qZ (show ns = ns.take (k + 1) ++ ns.drop (k + 1) from (List.take_append_drop _ _).symm);clear a7 hy;by_cases e : x = y
 ·have HE := qZ e
  have hs : ((str x).toList == (str y).toList) = true := by rw [e]; exact beq_self_eq_true _
  clear e;go_wp2_with fail
  go_ret
  refine ⟨⟨_, rfl, ?_⟩, rfl⟩;rw [b8.out, a8.out, HE.out];simp
 have HE := qZ e;have hn : (str x).toList ≠ (str y).toList := fun h => e (by simpa [str, ByteArray.toList_eq] using h)
 have hs : ((str x).toList == (str y).toList) = false := beq_eq_false_iff_ne.2 hn;clear hn;clear e;go_wp2_with fail
 go_roundw
 case rel => exact ⟨k + 1, by omega, by go_num, qZ (by rw [a8.out, List.any_append, HA.out]; simpa using fun h => HE.out h.symm), by first | rfl | trivial⟩
 case measure => simp [intOf]; omega
theorem bT0 (A : Option Addr) (ns : List Nm) (c : Nat) (x : Nm) (w : World) (hr : Rd w w.heap.size A (ns.map fun n => .string (str n))) (hl : ns.length <= 4611686018427387904) :
  Calls Tryz.prog 46 #[.slice A ns.length c, .string (str x)] w fun e w' => e = .returned (.bool (ns.any fun n => n == x)) ∧ w = w' := by
 have HI := qZ (cN4 A ns c x w hr hl);clear hr;go_enter Tryz.func46, Tryz.ntmps46
 go_wp2_with fail
 refine HI.out.mono ?_;rintro e w' ⟨⟨r, rfl, hr⟩, rfl⟩;have a7 := qZ hr;clear hr HI;go_wp2_with fail
 go_ret
 refine ⟨?_, rfl⟩;rw [<- a7.out]
 rfl
end
section
open Go.RowKit Oct
theorem bQ1 (b o : Nat) (f t : Int) (Al : Option Addr) (c : Nat) (hf : 0 <= f ∧ f <= 9223372036854775807) (w : World) (c1 : w.cell? ⟨b, o + 1, none⟩ = some (.int .i64 f)) (c2 : w.cell? ⟨b, o + 2, none⟩ = some (.int .i64 t)) (c3 : w.cell? ⟨b, o + 3, none⟩ = some (.slice Al 0 c)) :
  Calls Tryz.prog 62 #[.pointer (some ⟨b, o, none⟩)] w fun e w' => e = .returned (.tuple #[.int .i64 (f - 1), .int .i64 t]) ∧ Below w.heap.size w w' := by
 have hw : IntKind.i64.wrap (f - 1) = f - 1 := mH _ (by omega);go_enter Tryz.func62, Tryz.ntmps62
 go_wp2_with fail
 go_quiet (fail);go_wp2_with fail
 go_ret2
 exact ⟨rfl, aA4 (lS _ _) _⟩
theorem bQ2 (b o n eb eo c : Nat) (ix tm kd : Int) (Av : Option Addr) (lv cv : Nat) (hn : n <= 4611686018427387904) (w : World) (c3 : w.cell? ⟨b, o + 3, none⟩ = some (.slice (some ⟨eb, eo, none⟩) (n + 1) c)) (e0 : w.cell? ⟨eb, eo + n * 4, none⟩ = some (.int .i64 ix)) (e1 : w.cell? ⟨eb, eo + n * 4 + 1, none⟩ = some (.int .i64 tm)) (e2 : w.cell? ⟨eb, eo + n * 4 + 2, none⟩ = some (.int .i64 kd)) (e3 : w.cell? ⟨eb, eo + n * 4 + 3, none⟩ = some (.slice Av lv cv)) (f7 : b < w.heap.size) (a8 : eb < w.heap.size) :
  Calls Tryz.prog 62 #[.pointer (some ⟨b, o, none⟩)] w fun e w' => e = .returned (.tuple #[.int .i64 ix, .int .i64 tm]) ∧ Below w.heap.size w w' := by
 have hw : IntKind.i64.wrap (((n + 1 : Nat) : Int) - 1) = (n : Int) := by rw [mH _ (by omega)]; omega
 have g8 : ((n + 1 : Nat) : Int) - 1 = (n : Int) := by omega
 have g6 : (((n + 1 : Nat) : Int) == 0) = false := by simp; omega
 have f9 : (n : Int) < ((n + 1 : Nat) : Int) := by omega
 have g7 : (0 : Int) <= (n : Int) := by omega
 have g9 : IntKind.i64.wrap (n : Int) = (n : Int) := mH _ (by omega);have f8 : (0 : Int) <= (n : Int) ∧ (n : Int) < (n : Int) + 1 := by omega
 go_enter Tryz.func62, Tryz.ntmps62
 go_wp2_with fail
 have a7 : ∀ X : Obj, ((w.alloc X).drew).cell? ⟨b, o + 3, none⟩ = some (.slice (some ⟨eb, eo, none⟩) (n + 1) c) ∧ ((w.alloc X).drew).cell? ⟨eb, eo + n * 4, none⟩ = some (.int .i64 ix) ∧ ((w.alloc X).drew).cell? ⟨eb, eo + n * 4 + 1, none⟩ = some (.int .i64 tm) ∧ ((w.alloc X).drew).cell? ⟨eb, eo + n * 4 + 2, none⟩ = some (.int .i64 kd) ∧ ((w.alloc X).drew).cell? ⟨eb, eo + n * 4 + 3, none⟩ = some (.slice Av lv cv) ∧ True := fun X => by
  have hB : Below w.heap.size w (w.alloc X) := (lS _ w).alloc (lR _) _;exact ⟨(hB.cell (p := ⟨b, o + 3, none⟩) f7).trans c3, (hB.cell (p := ⟨eb, eo + n * 4, none⟩) a8).trans e0, (hB.cell (p := ⟨eb, eo + n * 4 + 1, none⟩) a8).trans e1, (hB.cell (p := ⟨eb, eo + n * 4 + 2, none⟩) a8).trans e2, (hB.cell (p := ⟨eb, eo + n * 4 + 3, none⟩) a8).trans e3, trivial⟩
 have d8 := qZ a7;clear a7;refine aD4 13 rfl (S := fun W => W.cell? ⟨b, o + 3, none⟩ = some (.slice (some ⟨eb, eo, none⟩) (n + 1) c) ∧ W.cell? ⟨eb, eo + n * 4, none⟩ = some (.int .i64 ix) ∧ W.cell? ⟨eb, eo + n * 4 + 1, none⟩ = some (.int .i64 tm) ∧ W.cell? ⟨eb, eo + n * 4 + 2, none⟩ = some (.int .i64 kd) ∧ W.cell? ⟨eb, eo + n * 4 + 3, none⟩ = some (.slice Av lv cv) ∧ True) ⟨c3, e0, e1, e2, e3, trivial⟩ (fun hHeld => ?_);refine zU6 0 (k := ?_);refine zU6 1 (k := ?_);refine zU6 2 (k := ?_);refine zU6 3 (k := ?_);refine zU6 4 (k := ?_);refine zU6 5 (k := ?_);refine zU6 6 (k := ?_);refine zU6 7 (k := ?_);refine zU6 8 (k := ?_);refine zU6 9 (k := ?_);refine zU6 10 (k := ?_);refine zU6 11 (k := ?_);simp only [zA, zB, zF, zG, zC, zD, zE];refine zW 12 (k := fun K hK => ?_);simp only [zA, zB];go_simp;refine hK _ _ (d8.out _) (fun hHeld => ?_);clear hK K;try simp only [zF, zG, zC, zD, zE]
 refine aH0 (t := 13) (by simp) (by kernel_rfl) (by kernel_rfl) (fun K hK => ?_);simp only [zA, zB];go_simp;refine hK _ _ ?_;clear hK K hHeld;have b8 : Below w.heap.size w (w.alloc (.cells #[.int .i64 ix, .int .i64 tm, .int .i64 kd, .slice Av lv cv] 65)).drew := aA4 ((lS _ w).alloc (lR _) _) 1;obtain ⟨wn, a9⟩ : ∃ wn, wn = (w.alloc (.cells #[.int .i64 ix, .int .i64 tm, .int .i64 kd, .slice Av lv cv] 65)).drew := ⟨_, rfl⟩
 have n0 : wn.cell? ⟨w.heap.size, 0, none⟩ = some (.int .i64 ix) := by rw [a9]; exact (Blk.new w 65 _).cell 0
 have n1 : wn.cell? ⟨w.heap.size, 1, none⟩ = some (.int .i64 tm) := by rw [a9]; exact (Blk.new w 65 _).cell 1
 rw [<- a9] at b8 ⊢;have e9 := qZ b8;clear a9 b8 c3 e0 e1 e2 e3 d8;go_wp2_with fail
 go_quiet (fail);go_wp2_with fail
 go_ret2
 exact ⟨rfl, aA4 e9.out _⟩
theorem bY8 (b o n ab ao c : Nat) (m : Int) (hn : n <= 4611686018427387904) (w : World) (c4 : w.cell? ⟨b, o + 4, none⟩ = some (.slice (some ⟨ab, ao, none⟩) (n + 1) c)) (e0 : w.cell? ⟨ab, ao + n, none⟩ = some (.int .i64 m)) :
  Calls Tryz.prog 56 #[.pointer (some ⟨b, o, none⟩)] w fun e w' => e = .returned (.int .i64 m) ∧ Below w.heap.size w w' := by
 have hw : IntKind.i64.wrap (((n + 1 : Nat) : Int) - 1) = (n : Int) := by rw [mH _ (by omega)]; omega
 have a9 : ((n + 1 : Nat) : Int) - 1 = (n : Int) := by omega
 have a7 : (n : Int) < ((n + 1 : Nat) : Int) := by omega
 have a8 : (0 : Int) <= (n : Int) := by omega
 go_enter Tryz.func56, Tryz.ntmps56
 go_wp2_with fail
 go_quiet (fail);go_wp2_with fail
 go_ret
 exact ⟨rfl, aA4 (lS _ _) _⟩
end
section
open Go.RowKit Oct
theorem cO6 (z : List Int) (n : Int) : aH1 (z ++ [n]) = aH1 z ++ enc (fold1 n) := by simp [aH1]
theorem aI7 {z : List Int} (hz : ∀ n ∈ z, -9223372036854775808 <= n ∧ n <= 9223372036854775807) : (aH1 z).length <= 10 * z.length := by
 induction z with
 | nil => simp [aH1]
 | cons x r ih =>
  have h1 := ih fun n hn => hz n (List.mem_cons_of_mem _ hn)
  have h2 := aM0 (fold1 x) (bH0 x (hz x (List.mem_cons_self ..)));unfold aH1 at h1 ⊢;simp only [mG, List.flatten_cons, lT, mC];omega
theorem bL0 (A : Option Addr) (z : List Int) (c : Nat) (w : World) (hr : Rd w w.heap.size A (z.map (Value.int .i64))) (hz : ∀ n ∈ z, -9223372036854775808 <= n ∧ n <= 9223372036854775807) (hl : z.length <= 1000000) :
  Calls Tryz.prog 68 #[.slice A z.length c] w fun e w' => ∃ v, e = .returned v ∧ Bs w' w.heap.size v (aH1 z) ∧ Below w.heap.size w w' := by
 have HR := qZ hr;have HZ := qZ hz;clear hr hz;go_enter Tryz.func68, Tryz.ntmps68
 go_wp2_with fail
 go_loopw [3, 5, 8] (fun v _ i wr => ∃ k : Nat, k <= z.length ∧ i = .int .i64 k ∧ Hid (Bs wr w.heap.size v (aH1 (z.take k))) ∧ Hid (Below w.heap.size w wr)) (fun _ _ i _ => z.length - (intOf i).toNat)
 case atStart => exact ⟨0, by omega, rfl, qZ (by show Own _ _ _ _ _; exact Own.nil _ _ _), qZ (lS _ _)⟩
 obtain ⟨k, hk, rfl, HV, HB⟩ := hrel;have l5 := HB.out.size;obtain ⟨Av, cv, rfl, a9, j6, _⟩ := aD5 HV.out;by_cases hlt : k < z.length
 rotate_left
 ·have f9 : z.take k = z := List.take_of_length_le (by omega)
  rw [f9] at HV;rw [f9];go_wp2_with fail
  go_ret
  exact ⟨_, rfl, HV.out, HB.out⟩
 obtain ⟨ad, rfl, l6, a7⟩ := bG6 (HR.out.below HB.out) hlt;have hn := HZ.out _ (lX hlt);have HT : Hid (aH1 (z.take (k + 1)) = aH1 (z.take k) ++ enc (fold1 z[k])) := qZ (by rw [List.take_succ_eq_append_getElem hlt, cO6]);have g6 := aI7 (z := z.take k) fun n hn => HZ.out n (List.mem_of_mem_take hn)
 rw [lV] at g6;generalize z[k] = nk at a7 hn HT
 have HI := qZ (dJ2 nk hn wr);have j8 := aM0 (fold1 nk) (bH0 nk hn);obtain ⟨P, hP⟩ : ∃ P, P = aH1 (z.take k) := ⟨_, rfl⟩
 rw [<- hP] at HV HT g6 a9 ⊢;obtain ⟨E, hE⟩ : ∃ E, E = enc (fold1 nk) := ⟨_, rfl⟩
 rw [<- hE] at HT HI j8;have l4 : (k : Int) < (z.length : Int) := by omega
 clear hP hE hn;go_wp2_with fail
 refine HI.out.mono ?_;rintro e w2 ⟨v2, rfl, g8, a8⟩;obtain ⟨A2, c2, rfl, _, _, g7⟩ := aD5 g8;have i3 := qZ g7;have f7 := qZ (Own.below HV.out a8 (lR _));have e9 := qZ (HB.out.trans (a8.mono l5));have l7 := e9.out.size;clear g8 a8 g7 HI;go_wp2_with (at_builtin; go_must (refine aB5 rfl (.tmp 12) (.tmp 14) 34 rfl w.heap.size 5 (.int .u8 0) 1 Tryz.underlying34 aG0 rfl _ _ rfl f7.out w2.heap.size A2 E.length c2 (cells E) rfl (aA2 _).symm i3.out (aZ7 _) (by simp only [aA2]; unfold maxLen; omega) (by simp only [aA2]; omega) (by omega) ?_; intro v3 w3 g9 f8 j9))
 have d8 : Bs w3 w.heap.size v3 (P ++ E) := (by unfold Bs; rw [aN7]; exact g9);obtain ⟨i1, i6, b8, _⟩ := aD5 d8;subst b8;have i4 := qZ (show Bs w3 w.heap.size (.slice i1 (P ++ E).length i6) (aH1 (z.take (k + 1))) by rw [HT.out]; exact d8);have i2 := qZ (e9.out.grown f8 (by omega) (fun j hj => (Own.lt f7.out j hj).1));clear g9 f8 j9 d8;go_wp2_with fail
 go_roundw
 case rel => exact ⟨k + 1, by omega, by go_num, i4, i2⟩
 case measure => simp [intOf]; omega
theorem bK6 (A : Option Addr) (ps : List Row) (n c : Nat) (hn : n = ps.length) (w : World) (hr : Rd w w.heap.size A (ps.map Row.val)) (hp : RRd w w.heap.size ps) (hl : ps.length <= 140737488351232) (hf : (aG6 ps).length <= 140737488351232) (a9 : ps.length <= c) :
  Calls Tryz.prog 67 #[.slice A n c] w fun e w' => ∃ v, e = .returned v ∧ Got w' w.heap.size v (aF2 (aG6 ps)) ∧ Below w.heap.size w w' := by
 have HJ := qZ (bT2 A ps n c hn w hr hp hl hf a9);clear hr hp hn;go_enter Tryz.func67, Tryz.ntmps67
 go_wp2_with fail
 refine HJ.out.mono ?_;rintro e w1 ⟨v, rfl, hg, hb⟩;obtain ⟨A1, c1, rfl, h1, h2, h3⟩ := hg.shape;have HC := qZ (cR6 A1 (aG6 ps) _ c1 rfl w1 h3 hf);have HB := qZ hb;clear hg hb h3 HJ;go_wp2_with fail
 refine HC.out.mono ?_;rintro e w2 ⟨v2, rfl, a7, a8⟩;obtain ⟨A2, c2, rfl, _, _, _⟩ := a7.shape;have hs := HB.out.size;have HG := qZ (And.intro (a7.mono hs) (HB.out.trans (a8.mono hs)));clear a7 a8 HC;go_wp2_with fail
 go_ret
 exact ⟨_, rfl, HG.out.1, HG.out.2⟩
theorem bK7 (A1 A2 : Option Addr) (l1 l2 : List UInt8) (c1 c2 : Nat) (w : World) (h1 : Rd w w.heap.size A1 (cells l1)) (h2 : Rd w w.heap.size A2 (cells l2)) (d8 : l1.length <= 70000000) (e9 : l2.length <= 70000000) :
  Calls Tryz.prog 67 #[.slice (some ⟨w.heap.size, 0, none⟩) 2 2] (w.alloc (.cells #[.slice A1 l1.length c1, .slice A2 l2.length c2] 34)) fun e w' => ∃ v, e = .returned v ∧ Got w' w.heap.size v (aF2 (l1 ++ l2)) ∧ Below w.heap.size w w' := by
 have a8 : Below w.heap.size w (w.alloc (.cells [Row.val ⟨A1, l1, c1⟩, Row.val ⟨A2, l2, c2⟩].toArray 34)) := (lS _ w).alloc (lR _) _;have b8 : Rd (w.alloc (.cells [Row.val ⟨A1, l1, c1⟩, Row.val ⟨A2, l2, c2⟩].toArray 34)) (w.alloc (.cells [Row.val ⟨A1, l1, c1⟩, Row.val ⟨A2, l2, c2⟩].toArray 34)).heap.size (some ⟨w.heap.size, 0, none⟩) ([⟨A1, l1, c1⟩, ⟨A2, l2, c2⟩].map Row.val) := (aG4 w 34 [Row.val ⟨A1, l1, c1⟩, Row.val ⟨A2, l2, c2⟩]).more (by simp);have a9 : RRd (w.alloc (.cells [Row.val ⟨A1, l1, c1⟩, Row.val ⟨A2, l2, c2⟩].toArray 34)) (w.alloc (.cells [Row.val ⟨A1, l1, c1⟩, Row.val ⟨A2, l2, c2⟩].toArray 34)).heap.size [⟨A1, l1, c1⟩, ⟨A2, l2, c2⟩] := fun p hp => by
  simp only [List.mem_cons, List.not_mem_nil, or_false] at hp;rcases hp with rfl | rfl
  ·exact ⟨(h1.below a8).more a8.size, by show l1.length <= _; omega⟩
  exact ⟨(h2.below a8).more a8.size, by show l2.length <= _; omega⟩
 have a7 : aG6 [⟨A1, l1, c1⟩, ⟨A2, l2, c2⟩] = l1 ++ l2 := by simp [aG6]
 have h := bK6 (some ⟨w.heap.size, 0, none⟩) [⟨A1, l1, c1⟩, ⟨A2, l2, c2⟩] 2 2 rfl _ b8 a9 (by simp) (by rw [a7, lT]; omega) (by simp);rw [a7] at h;exact h.mono fun e w' ⟨v, h1, h2, h3⟩ => ⟨v, h1, h2.mono (by simp), a8.trans (h3.mono (by simp))⟩
theorem aN8 (b o : Nat) (k : Int) (hk : -9223372036854775808 <= k ∧ k <= 9223372036854775807) (w : World) (c0 : w.cell? ⟨b, o, none⟩ = some (.int .i64 k)) (ht : Tab w) :
  Calls Tryz.prog 52 #[.pointer (some ⟨b, o, none⟩)] w fun e w' => e = .returned (.string (str (aA1 k))) ∧ Below w.heap.size w w' := by
 have HT := qZ (dF9 k hk w ht);have a7 : (str (Lib.itoa k)).size <= 21 := by
  have := Lib.itoa_length_le k hk.1 hk.2;show (Lib.itoa k).toArray.size <= 21
  simpa using this
 clear ht hk;go_enter Tryz.func52, Tryz.ntmps52
 go_wp2_with fail
 refine HT.out.mono ?_;rintro e w' ⟨rfl, hb⟩;have HB := qZ hb;clear hb HT;go_wp2_with fail
 go_ret
 refine ⟨?_, HB.out⟩;have e : (⟨#[106]⟩ : ByteArray) ++ str (Lib.itoa k) = str (aA1 k) := by
  apply WideShapes.bytes_inj
  simp [str, aA1]
 rw [<- e]
 rfl
theorem bY7 (b o : Nat) (f t : Int) (hf : f <= 9223372036854775807) (g7 : -9223372036854775808 <= t ∧ t <= 9223372036854775807) (w : World) (c1 : w.cell? ⟨b, o + 1, none⟩ = some (.int .i64 f)) (c2 : w.cell? ⟨b, o + 2, none⟩ = some (.int .i64 t)) (hb : b < w.heap.size) :
  Calls Tryz.prog 63 #[.pointer (some ⟨b, o, none⟩)] w fun e w' => ∃ v, e = .returned v ∧ Got w' w.heap.size v (aE4 f t) ∧ Below w.heap.size w w' := by
 have HU := qZ (dG6 f hf w);have i1 := qZ c2;have f8 := qZ g7;clear c2 g7;go_enter Tryz.func63, Tryz.ntmps63
 go_wp2_with fail
 refine HU.out.mono ?_;rintro e w1 ⟨v1, rfl, d8, a7⟩;obtain ⟨A1, i2, rfl, k1, k2, k3⟩ := aD5 d8;have i4 := a7.size;have c2 : w1.cell? ⟨b, o + 2, none⟩ = some (.int .i64 t) := (a7.cell (p := ⟨b, o + 2, none⟩) hb).trans i1.out;have a9 : Below w1.heap.size w1 (w1.alloc (.cells #[.int .i64 t] 3)) := (lS _ w1).alloc (lR _) _;have HN := qZ (bL0 (some ⟨w1.heap.size, 0, none⟩) [t] 1 (w1.alloc (.cells #[.int .i64 t] 3)) ((aG4 w1 3 [.int .i64 t]).more (by simp)) (by intro n hn; obtain rfl := List.mem_singleton.1 hn; exact f8.out) (by simp));have f9 := qZ (Own.below d8 a9 (lR _));have e9 := qZ (a7.trans (a9.mono i4));have j9 := a9.size;have i6 : (cC2 f).length <= 10 := by
  unfold cC2;split
  ·simp
  exact aM0 _ (by omega)
 clear d8 a7 a9 k3 HU c1;go_wp2_with fail
 refine HN.out.mono ?_;rintro e w2 ⟨v2, rfl, g8, a8⟩;obtain ⟨A2, i3, rfl, j1, j2, j3⟩ := aD5 g8;have j8 := a8.size;obtain ⟨_, _, q1, q2, q3, q4⟩ := aD5 (Own.below f9.out a8 (lR _));injection q1 with q1 _ q1'
 subst q1 q1';have j6 : (aH1 [t]).length <= 10 := aI7 (z := [t]) (by intro n hn; obtain rfl := List.mem_singleton.1 hn; exact f8.out);have f7 := qZ (bK7 A1 A2 (cC2 f) (aH1 [t]) i2 i3 w2 q4 j3 (by omega) (by omega));have g9 := qZ (e9.out.trans (a8.mono (by omega)));clear g8 a8 j3 q4 HN f9 e9;go_wp2_with fail
 refine f7.out.mono ?_;rintro e w3 ⟨v3, rfl, b8, g6⟩;obtain ⟨A3, c3, rfl, _, _, _⟩ := b8.shape;have HF := qZ (And.intro (b8.mono (by omega : w.heap.size <= w2.heap.size)) (g9.out.trans (g6.mono (by omega))));clear b8 g6 f7;go_wp2_with fail
 go_ret
 exact ⟨_, rfl, HF.out.1, HF.out.2⟩
theorem cN6 (A : Option Addr) (q : aF9) (c : Nat) (w : World) (hr : Rd w w.heap.size A (cells q.b)) (hl : q.b.length <= 140737488351232) (g7 : -9223372036854775808 <= q.tm ∧ q.tm <= 9223372036854775807) (g6 : -9223372036854775808 <= q.kd ∧ q.kd <= 9223372036854775807) :
  Calls Tryz.prog 65 #[.agg #[.int .i64 q.ix, .int .i64 q.tm, .int .i64 q.kd, .slice A q.b.length c]] w fun e w' => ∃ v, e = .returned v ∧ Got w' w.heap.size v (aC9 q) ∧ Below w.heap.size w w' := by
 obtain ⟨ix, tm, kd, l⟩ := q;simp only at hr hl g7 g6 ⊢;obtain ⟨w0, e9⟩ : ∃ w0, w0 = w.alloc (.cells #[.int .i64 ix, .int .i64 tm, .int .i64 kd, .slice A l.length c] 65) := ⟨_, rfl⟩
 have f8 : Below w.heap.size w w0 := by rw [e9]; exact (lS _ w).alloc (lR _) _
 have a8 : Blk w0 w.heap.size 65 #[.int .i64 ix, .int .i64 tm, .int .i64 kd, .slice A l.length c] := by rw [e9]; exact Blk.new w 65 _
 have l6 : w.heap.size < w0.heap.size := a8.lt;have l7 := bN0 c (hr.below f8);have HT := qZ (dG0 (str l) (by rw [aP0]; exact hl) w0);rw [cL0] at HT;have a7 := qZ (And.intro g7 g6);have j9 := qZ e9;have i6 := qZ f8;have j8 := qZ a8;have c3 : w0.cell? ⟨w.heap.size, 3, none⟩ = some (.slice A l.length c) := a8.cell 3;clear hr g7 g6 e9 f8 a8;go_enter Tryz.func65, Tryz.ntmps65
 go_upto_region 1 with (fail)
 rw [<- j9.out];go_wp2_with fail
 refine HT.out.mono ?_;rintro e w1 ⟨v1, rfl, g8, a9⟩;obtain ⟨A1, l4, rfl, k1, k2, k3⟩ := aD5 g8;have m0 := a9.size;have f7 := j8.out.below a9 l6;have c1 : w1.cell? ⟨w.heap.size, 1, none⟩ = some (.int .i64 tm) := f7.cell 1;have c2 : w1.cell? ⟨w.heap.size, 2, none⟩ = some (.int .i64 kd) := f7.cell 2;have d8 : Below w1.heap.size w1 (w1.alloc (.cells #[.int .i64 tm, .int .i64 kd] 3)) := (lS _ w1).alloc (lR _) _;have HN := qZ (bL0 (some ⟨w1.heap.size, 0, none⟩) [tm, kd] 2 (w1.alloc (.cells #[.int .i64 tm, .int .i64 kd] 3)) ((aG4 w1 3 [.int .i64 tm, .int .i64 kd]).more (by simp)) (by
  intro n hn;simp only [List.mem_cons, List.not_mem_nil, or_false] at hn;rcases hn with rfl | rfl
  ·exact a7.out.1
  exact a7.out.2) (by simp))
 have i2 := qZ (Own.below g8 d8 (lR _));have g9 := qZ ((i6.out.trans (a9.mono (by omega))).trans (d8.mono (by omega)));have m3 := d8.size;have l8 : (bP5 l).length <= 65545 := by
  unfold bP5;split
  ·simp
  have := aM0 l.length (by omega);rw [lT];omega
 clear g8 a9 d8 k3 HT c3 l7 f7;go_wp2_with fail
 refine HN.out.mono ?_;rintro e w2 ⟨v2, rfl, i4, b8⟩;obtain ⟨A2, l5, rfl, j1, j2, j3⟩ := aD5 i4;have m2 := b8.size;obtain ⟨_, _, q1, q2, q3, q4⟩ := aD5 (Own.below i2.out b8 (lR _));injection q1 with q1 _ q1'
 subst q1 q1';have l9 : (aH1 [tm, kd]).length <= 20 := aI7 (z := [tm, kd]) (by
  intro n hn;simp only [List.mem_cons, List.not_mem_nil, or_false] at hn;rcases hn with rfl | rfl
  ·exact a7.out.1
  exact a7.out.2)
 have i1 := qZ (bK7 A2 A1 (aH1 [tm, kd]) (bP5 l) l5 l4 w2 j3 q4 (by omega) (by omega));have j6 := qZ (g9.out.trans (b8.mono (by omega)));clear i4 b8 j3 q4 HN i2 g9 c1 c2;go_wp2_with fail
 refine i1.out.mono ?_;rintro e w3 ⟨v3, rfl, f9, i3⟩;obtain ⟨A3, c3, rfl, _, _, _⟩ := f9.shape;have HF := qZ (And.intro (f9.mono (by omega : w.heap.size <= w2.heap.size)) (j6.out.trans (i3.mono (by omega))));clear f9 i3 i1;go_wp2_with fail
 go_ret
 exact ⟨_, rfl, HF.out.1, HF.out.2⟩
end
section
open Go.RowKit Oct
def aM4 : Array Value -> Nat -> List Int -> Array Value
 | cs, _, [] => cs
 | cs, o, v :: r => aM4 (cs.setIfInBounds o (.int .i64 v)) (o + 1) r
theorem bM9 (v : Int) : ∀ (l : List Int) (cs : Array Value) (o : Nat), aM4 cs o (l ++ [v]) = (aM4 cs o l).setIfInBounds (o + l.length) (.int .i64 v)
 | [], cs, o => by simp [aM4]
 | x :: r, cs, o => by
  rw [List.cons_append, aM4, bM9 v r, aM4, mC, show o + 1 + r.length = o + (r.length + 1) by omega]
theorem cQ1 {n : Nat} {b r : List UInt8} {vals : List Int} {k : Nat} (h : aD9 n b = (vals ++ (aD9 (n - k) r).1, (aD9 (n - k) r).2)) (hk : k < n) (h0 : (aB9 maxU r).2.2 = 0) (h1 : ¬ aI4 (aB9 maxU r).1 < 0) :
  aD9 n b = ((vals ++ [aI4 (aB9 maxU r).1]) ++ (aD9 (n - (k + 1)) (r.drop (aB9 maxU r).2.1)).1, (aD9 (n - (k + 1)) (r.drop (aB9 maxU r).2.1)).2) := by
 rw [h, show n - k = (n - (k + 1)) + 1 by omega, aD9, if_neg (by rintro (e | e); exact e h0; exact h1 e)];simp
theorem cQ0 {n : Nat} {b r : List UInt8} {vals : List Int} {k : Nat} (h : aD9 n b = (vals ++ (aD9 (n - k) r).1, (aD9 (n - k) r).2)) (hk : k < n) (h0 : (aB9 maxU r).2.2 ≠ 0 ∨ aI4 (aB9 maxU r).1 < 0) : (aD9 n b).2 = none := by
 rw [h, show n - k = (n - (k + 1)) + 1 by omega, aD9, if_pos h0]
theorem bG0 : ∀ (l : List Int) (cs : Array Value) (o j : Nat), o + l.length <= j -> (aM4 cs o l)[j]? = cs[j]?
 | [], cs, o, j, _ => rfl
 | x :: r, cs, o, j, h => by
  rw [mC] at h;rw [aM4, bG0 r _ (o + 1) j (by omega), Array.getElem?_setIfInBounds_ne (by omega)]
theorem cD3 {A : Option Addr} {lo cap G : Nat} (h : ∀ ad, A = some ad -> ad.block ≠ G) : ∀ ad, cutA A lo cap = some ad -> ad.block ≠ G := fun ad he => by
 unfold cutA at he;split at he
 ·exact h ad he
 cases A with
 | none => cases he
 | some a =>
  injection he with he
  rw [<- he, aC5];exact h a rfl
theorem Rd.setCell_ne {w : World} {B G j : Nat} {A : Option Addr} {xs : List Value} (h : Rd w B A xs) (hA : 0 < xs.length -> ∀ ad, A = some ad -> ad.block ≠ G) (u : Value) : Rd (w.setCell ⟨G, j, none⟩ u).drew B A xs := fun h0 => by
 obtain ⟨ad, e, hlt, hc⟩ := h h0;exact ⟨ad, e, hlt, fun i v hv => (World.cell?_of_block (w := w) (Below.heap_setCell _ _ _ _ (by rw [aC5]; exact hA h0 ad e))).trans (hc i v hv)⟩
theorem aS6 (A : Option Addr) (b : List UInt8) (c : Nat) (Ap : Option Addr) (n cp G o : Nat) (T : TypeId) (cs : Array Value) (w : World) (hr : Rd w w.heap.size A (cells b)) (hA : 0 < b.length -> ∀ ad, A = some ad -> ad.block ≠ G) (n8 : b.length <= c) (hb : b.length <= 140737488351232) (hc : c <= 9223372036854775807)
  (hp : Rd w w.heap.size Ap ((List.range n).map fun i => Value.pointer (some ⟨G, o + i, none⟩))) (l9 : ∀ ad, Ap = some ad -> ad.block ≠ G) (hG : Blk w G T cs) (hn : n <= 2) (m2 : ∀ i, i < n -> ∃ u, cs[o + i]? = some u ∧ u.oneCell' = true) :
  Calls Tryz.prog 104 #[.slice A b.length c, .slice Ap n cp] w fun e w' => ∃ v, e = .returned (.tuple #[v, .bool (aD9 n b).2.isSome]) ∧ w.grownBy w' (some G) ∧ (∃ a7, a7.length <= n ∧ Blk w' G T (aM4 cs o a7) ∧ ∀ r, (aD9 n b).2 = some r -> a7 = (aD9 n b).1 ∧ a7.length = n) ∧
   (∃ Ar rr cr, v = .slice Ar (rr : List UInt8).length cr ∧ rr.length <= cr ∧ cr <= 9223372036854775807 ∧ Rd w' w'.heap.size Ar (cells rr) ∧ (aD9 n b).2.getD [] = rr) := by
 have HP := qZ hp;have HG := qZ hG;have m8 := qZ m2;have m7 := qZ l9;have HR := qZ hr;have HA := qZ hA;clear hp hG m2 l9 hr hA;go_enter Tryz.func104, Tryz.ntmps104
 go_wp2_with fail
 go_loopw [0, 7, 8, 9, 10, 13] (fun bv _ _ _ _ i wr => ∃ (k : Nat) (a7 : List Int) (r : List UInt8) (Ar : Option Addr) (cr : Nat), k <= n ∧ i = .int .i64 k ∧ bv = .slice Ar r.length cr ∧ r.length <= cr ∧ cr <= 9223372036854775807 ∧ r.length <= b.length ∧ Hid (Rd wr wr.heap.size Ar (cells r)) ∧ Hid (0 < r.length -> ∀ ad, Ar = some ad -> ad.block ≠ G) ∧ Hid (a7.length = k) ∧
  Hid (aD9 n b = (a7 ++ (aD9 (n - k) r).1, (aD9 (n - k) r).2)) ∧ Hid (Blk wr G T (aM4 cs o a7)) ∧ Hid (w.grownBy wr (some G))) (fun _ _ _ _ _ i _ => n - (intOf i).toNat)
 case atStart => exact ⟨0, [], b, A, c, by omega, rfl, rfl, n8, hc, lR _, HR, HA, qZ rfl, qZ (by rw [Nat.sub_zero]; simp), HG, qZ (World.grownBy.refl _ _)⟩
 obtain ⟨k, a7, r, Ar, cr, hk, rfl, rfl, m4, o7, p4, i1, i6, e9, HT, HB, f8⟩ := hrel;have p5 := f8.out.size;by_cases hlt : k < n
 rotate_left
 ·obtain rfl : k = n := by omega
  have a9 : (aD9 k b).2 = some r ∧ (aD9 k b).1 = a7 := by
   rw [HT.out, Nat.sub_self];simp [aD9]
  have j9 := qZ a9;have hz : (aD9 k b).2.isSome = true := by rw [a9.1]; rfl
  have HZ := qZ hz;clear a9 hz;go_wp2_with fail
  go_ret2
  exact ⟨_, by rw [HZ.out]; rfl, f8.out, ⟨a7, by rw [e9.out]; omega, HB.out, fun r' _ => ⟨j9.out.2.symm, e9.out⟩⟩, Ar, r, cr, rfl, m4, o7, i1.out, by rw [j9.out.1]; rfl⟩
 obtain ⟨i2, n7, n6, g9⟩ := bG6 HP.out (show k < (List.range n).length by simpa using hlt);rw [List.getElem_range] at g9;subst n7;have n9 : wr.cell? (i2.add k) = some (.pointer (some ⟨G, o + k, none⟩)) := (World.cell?_of_block (w := w) (by rw [aC5]; exact f8.out.block i2.block n6 (fun e => by injection e with e; exact m7.out i2 rfl e))).trans g9;have b8 := qZ (cG5 Ar r cr wr i1.out (by omega));have o8 : (k : Int) < (n : Int) := by omega
 have m6 := aX2 maxU r;by_cases hbad : (aB9 maxU r).2.2 ≠ 0 ∨ aI4 (aB9 maxU r).1 < 0
 ·have HN := qZ (cQ0 HT.out hlt hbad)
  obtain ⟨er, i3⟩ : ∃ er, er = (aB9 maxU r).2.2 := ⟨_, rfl⟩
  obtain ⟨nv, d8⟩ : ∃ nv, nv = aI4 (aB9 maxU r).1 := ⟨_, rfl⟩
  obtain ⟨us, f7⟩ : ∃ us, us = (aB9 maxU r).2.1 := ⟨_, rfl⟩
  rw [<- i3, <- d8] at hbad;rw [<- i3, <- d8, <- f7] at b8;have g6 : ∀ w2 : World, Below wr.heap.size wr w2 -> w.grownBy w2 (some G) ∧ (∃ a7, a7.length <= n ∧ Blk w2 G T (aM4 cs o a7) ∧ ∀ r, (aD9 n b).2 = some r -> a7 = (aD9 n b).1 ∧ a7.length = n) ∧ (∃ Ar rr cr, (Value.slice none 0 0) = .slice Ar (rr : List UInt8).length cr ∧ rr.length <= cr ∧ cr <= 9223372036854775807 ∧ Rd w2 w2.heap.size Ar (cells rr) ∧ (aD9 n b).2.getD [] = rr) := fun w2 a8 =>
   ⟨aB8 f8.out (aA5 a8 (some G)) (.inl rfl), ⟨a7, by rw [e9.out]; omega, HB.out.below a8 HB.out.lt, fun r' h' => by rw [HN.out] at h'; cases h'⟩, none, [], 0, rfl, by simp, by simp, Rd.none_, by rw [HN.out]; rfl⟩
  have j8 := qZ g6;have hz : (aD9 n b).2.isSome = false := by rw [HN.out]; rfl
  have HZ := qZ hz;clear i3 d8 f7 g9 hz g6;by_cases h0 : er = 0
  ·have h1 : nv < 0 := by
    rcases hbad with h | h
    ·exact absurd h0 h
    exact h
   subst h0;clear hbad;go_wp2_with fail
   refine b8.out.mono ?_;rintro e w2 ⟨rfl, a8⟩;have g8 := qZ a8;clear a8 b8;go_wp2_with fail
   go_ret2
   exact ⟨_, by rw [HZ.out]; rfl, j8.out w2 g8.out⟩
  clear hbad;go_wp2_with fail
  refine b8.out.mono ?_;rintro e w2 ⟨rfl, a8⟩;have g8 := qZ a8;clear a8 b8;go_wp2_with fail
  go_ret2
  exact ⟨_, by rw [HZ.out]; rfl, j8.out w2 g8.out⟩
 obtain ⟨h0, h1⟩ : (aB9 maxU r).2.2 = 0 ∧ ¬ aI4 (aB9 maxU r).1 < 0 := ⟨by
  by_cases h : (aB9 maxU r).2.2 = 0
  ·exact h
  exact absurd (.inl h) hbad, fun h => hbad (.inr h)⟩
 have l8 := qZ (cQ1 HT.out hlt h0 h1);rw [h0] at b8;obtain ⟨nv, d8⟩ : ∃ nv, nv = aI4 (aB9 maxU r).1 := ⟨_, rfl⟩
 obtain ⟨us, f7⟩ : ∃ us, us = (aB9 maxU r).2.1 := ⟨_, rfl⟩
 rw [<- d8] at h1;rw [<- f7] at m6;rw [<- d8, <- f7] at b8 l8;obtain ⟨u, hu, p6⟩ := m8.out k hlt;have g7 : (aM4 cs o a7)[o + k]? = some u := by rw [bG0 a7 cs o (o + k) (by rw [e9.out]; omega)]; exact hu
 have m9 := qZ g7;clear hbad h0 d8 f7 g9 hu g7;go_wp2_with fail
 refine b8.out.mono ?_;rintro e w2 ⟨rfl, a8⟩;have f9 := HB.out.below a8 HB.out.lt;have g0 : w2.cell? ⟨G, o + k, none⟩ = some u := (f9.cell (o + k)).trans m9.out;have gf : w2.frozen? ⟨G, o + k, none⟩ = false := f9.frozen _;have g8 := qZ f9;have l6 := qZ ((i1.out.below a8).more a8.size);have l4 := qZ (aB8 f8.out (aA5 a8 (some G)) (.inl rfl));have hcut := fun W : World => aO1 (P := Tryz.prog) Tryz.underlying34 aG0 Ar r.length cr us m6 (us : Int) rfl W
 have p0 := a8.size;clear a8 b8;clear p0;go_wp2_with fail
 refine aD4 7 rfl (S := fun _ => True) trivial (fun hHeld => ?_);refine zU 0 (k := ?_);refine zU 1 (k := ?_);refine zU 2 (k := ?_);refine zU 3 (k := ?_);refine zU 4 (k := ?_);refine zU 5 (k := ?_);simp only [zA, zB, zF, zG, zC, zD, zE];refine zW 6 (k := fun K hK => ?_);simp only [zA, zB];go_simp;refine hK _ _ trivial (fun hHeld => ?_);clear hK K;try simp only [zF, zG, zC, zD, zE]
 refine aH0 (t := 7) (by simp) (by kernel_rfl) (by kernel_rfl) (fun K hK => ?_);simp only [zA, zB];go_simp;refine hK _ _ ?_;clear hK K hHeld;have m3 : w.grownBy (w2.setCell ⟨G, o + k, none⟩ (.int .i64 nv)).drew (some G) := aB8 l4.out ⟨rfl, rfl, rfl, (aA0 w2 G (o + k) (.int .i64 nv)).size, (aA0 w2 G (o + k) (.int .i64 nv)).block⟩ (.inl rfl);have m0 : Blk (w2.setCell ⟨G, o + k, none⟩ (.int .i64 nv)).drew G T (aM4 cs o (a7 ++ [nv])) := by
  rw [bM9, e9.out];exact f9.set_ (o + k) (.int .i64 nv)
 have m5 : Rd (w2.setCell ⟨G, o + k, none⟩ (.int .i64 nv)).drew (w2.setCell ⟨G, o + k, none⟩ (.int .i64 nv)).drew.heap.size (cutA Ar us cr) (cells (r.drop us)) := by
  have hq := Rd.cutA l6.out (k := us) (cap := cr) (by rw [aA2]; omega) (by rw [aA2]; exact m4);have o9 := Rd.setCell_ne (j := o + k) hq (fun h0 => cD3 (i6.out (by rw [lZ, aA2] at h0; omega))) (.int .i64 nv);exact (by simpa [cells, List.map_drop] using o9 : Rd (w2.setCell ⟨G, o + k, none⟩ (.int .i64 nv)).drew w2.heap.size (cutA Ar us cr) (cells (r.drop us))).more (aA0 w2 G (o + k) (.int .i64 nv)).size
 have l5 := qZ m3;have j6 := qZ m0;have l7 := qZ m5;clear m3 m0 m5 f9 g0 gf l4 l6 hcut;generalize (w2.setCell ⟨G, o + k, none⟩ (.int .i64 nv)).drew = w3 at l5 j6 l7 ⊢
 have i4 : r.length - us = (r.drop us).length := by rw [lZ]
 rw [i4];go_wp2_with fail
 go_roundw
 case rel => exact ⟨k + 1, a7 ++ [nv], r.drop us, cutA Ar us cr, cr - us, by omega, by go_num, rfl, by rw [lZ]; omega, by omega, by rw [lZ]; omega, l7, qZ (fun h0 => cD3 (i6.out (by rw [lZ] at h0; omega))), qZ (by rw [lT, e9.out]; rfl), l8, j6, l5⟩
 case measure => simp [intOf]; omega
end
section
open Go.RowKit Oct
theorem cP9 {p : List UInt8} (h : (aB9 maxI p).2.2 ≠ 0 ∨ (aB9 maxI p).1 < 1 ∨ ((aB9 maxI p).1 : Int) = aD6) : aK1 p = none := by
 unfold aK1;rw [if_pos h]
theorem cY9 {p : List UInt8} (h : ¬ ((aB9 maxI p).2.2 ≠ 0 ∨ (aB9 maxI p).1 < 1 ∨ ((aB9 maxI p).1 : Int) = aD6)) : aK1 p = match aD9 1 (p.drop (aB9 maxI p).2.1) with
 | ([t], some []) => some ((aB9 maxI p).1, t)
 | _ => none := by
 unfold aK1;rw [if_neg h]
 all_goals rfl
theorem bV4 (cs : Array Value) (i : Nat) (v : Value) (h : cs[i]? = some v) : cs.setIfInBounds i v = cs := by
 obtain ⟨h1, h2⟩ := Array.getElem?_eq_some_iff.1 h;apply Array.ext_getElem?
 intro j;rw [Array.getElem?_setIfInBounds];split
 ·rename_i e
  subst e;rw [h]
 rfl
theorem bT3 (A : Option Addr) (b : List UInt8) (c G : Nat) (T : TypeId) (cs : Array Value) (f0 t0 : Int) (w : World) (hr : Rd w w.heap.size A (cells b)) (hA : 0 < b.length -> ∀ ad, A = some ad -> ad.block ≠ G) (m5 : b.length <= c) (hb : b.length <= 140737488351232) (hc : c <= 9223372036854775807)
  (hG : Blk w G T cs) (h1 : cs[1]? = some (.int .i64 f0)) (h2 : cs[2]? = some (.int .i64 t0)) :
  Calls Tryz.prog 145 #[.pointer (some ⟨G, 0, none⟩), .slice A b.length c] w fun e w' => e = .returned (.bool (aK1 b).isSome) ∧ w.grownBy w' (some G) ∧ ∃ f t, Blk w' G T ((cs.setIfInBounds 2 (.int .i64 t)).setIfInBounds 1 (.int .i64 f)) ∧ ∀ q, aK1 b = some q -> (f, t) = q := by
 have HG := qZ hG;have HU := qZ (aO2 A b c w hr (by omega));have a9 : (cs.setIfInBounds 2 (.int .i64 t0)).setIfInBounds 1 (.int .i64 f0) = cs := by rw [bV4 cs 2 _ h2, bV4 cs 1 _ h1]
 have m3 := qZ a9;have i4 := aX2 maxI b;have l6 : (aB9 maxI b).1 <= 9223372036854775807 := bB4 maxI b;by_cases hbad : (aB9 maxI b).2.2 ≠ 0 ∨ (aB9 maxI b).1 < 1 ∨ ((aB9 maxI b).1 : Int) = aD6
 ·have HN := qZ (cP9 hbad)
  obtain ⟨er, i1⟩ : ∃ er, er = (aB9 maxI b).2.2 := ⟨_, rfl⟩
  obtain ⟨nv, d8⟩ : ∃ nv, nv = (aB9 maxI b).1 := ⟨_, rfl⟩
  obtain ⟨us, f7⟩ : ∃ us, us = (aB9 maxI b).2.1 := ⟨_, rfl⟩
  rw [<- i1, <- d8] at hbad;rw [<- i1, <- d8, <- f7] at HU;rw [<- d8] at l6;have e9 : ∀ w2 : World, Below w.heap.size w w2 -> w.grownBy w2 (some G) ∧ ∃ f t, Blk w2 G T ((cs.setIfInBounds 2 (.int .i64 t)).setIfInBounds 1 (.int .i64 f)) ∧ ∀ q, aK1 b = some q -> (f, t) = q := fun w2 a7 =>
   ⟨aA5 a7 (some G), f0, t0, by rw [m3.out]; exact HG.out.below a7 HG.out.lt, fun q h' => by rw [HN.out] at h'; cases h'⟩
  rw [HN.out] at e9 ⊢;have g9 := qZ e9;clear i1 d8 f7 i4 e9 hr hA a9 hG;unfold aD6 at hbad;by_cases e0 : er = 0
  rotate_left
  ·clear hbad
   go_enter Tryz.func145, Tryz.ntmps145
   go_wp2_with fail
   refine HU.out.mono ?_;rintro e w2 ⟨rfl, a7⟩;have b8 := qZ a7;clear a7 HU;go_wp2_with fail
   go_ret
   exact ⟨rfl, g9.out w2 b8.out⟩
  subst e0;by_cases e1 : nv < 1
  ·obtain rfl : nv = 0 := by omega
   clear hbad;go_enter Tryz.func145, Tryz.ntmps145
   go_wp2_with fail
   refine HU.out.mono ?_;rintro e w2 ⟨rfl, a7⟩;have b8 := qZ a7;clear a7 HU;go_wp2_with fail
   go_ret
   exact ⟨rfl, g9.out w2 b8.out⟩
  obtain rfl : nv = 9223372036854775807 := by
   rcases hbad with h | h | h
   ·exact absurd rfl h
   ·exact absurd h e1
   omega
  clear hbad;go_enter Tryz.func145, Tryz.ntmps145
  go_wp2_with fail
  refine HU.out.mono ?_;rintro e w2 ⟨rfl, a7⟩;have b8 := qZ a7;clear a7 HU;go_wp2_with fail
  go_ret
  exact ⟨rfl, g9.out w2 b8.out⟩
 have HN := qZ (cY9 hbad);have h0 : (aB9 maxI b).2.2 = 0 := by
  by_cases h : (aB9 maxI b).2.2 = 0
  ·exact h
  exact absurd (.inl h) hbad
 have m6 : ¬ (aB9 maxI b).1 < 1 := fun h => hbad (.inr (.inl h))
 have l7 : ¬ ((aB9 maxI b).1 : Int) = aD6 := fun h => hbad (.inr (.inr h))
 unfold aD6 at l7;rw [h0] at HU;obtain ⟨nv, d8⟩ : ∃ nv, nv = (aB9 maxI b).1 := ⟨_, rfl⟩
 obtain ⟨us, f7⟩ : ∃ us, us = (aB9 maxI b).2.1 := ⟨_, rfl⟩
 rw [<- d8, <- f7] at HU HN;rw [<- d8] at l6 m6 l7;rw [<- f7] at i4;have HR := qZ hr;have HA := qZ hA;clear hbad h0 d8 f7 hr hA a9 hG;have n7 : decide ((nv : Int) < 1) = false := by simp; omega
 have n8 : ((nv : Int) == 9223372036854775807) = false := by simp; omega
 have g8 := qZ (And.intro h1 h2);clear h1 h2;go_enter Tryz.func145, Tryz.ntmps145
 go_wp2_with fail
 refine HU.out.mono ?_;rintro e w2 ⟨rfl, a7⟩;have b8 := qZ a7;clear a7 HU;have hW : w2.grownBy (w2.alloc (.cells [Value.pointer (some ⟨G, 2, none⟩)].toArray 155)).drew (some G) := aA5 (aA4 ((lS _ w2).alloc (lR _) _) 1) (some G);have g7 : Below w2.heap.size w2 (w2.alloc (.cells [Value.pointer (some ⟨G, 2, none⟩)].toArray 155)).drew := aA4 ((lS _ w2).alloc (lR _) _) 1;have l8 := b8.out.size;have m4 := HG.out.lt;have j6 : Hid (Calls Tryz.prog 104 #[.slice (cutA A us c) (b.length - us) (c - us), .slice (some ⟨w2.heap.size, 0, none⟩) 1 1] (w2.alloc (.cells [Value.pointer (some ⟨G, 2, none⟩)].toArray 155)).drew _) := qZ (by
  have hq := Rd.cutA (HR.out.below b8.out) (k := us) (cap := c) (by rw [aA2]; omega) (by rw [aA2]; exact m5);have m7 : Rd w2 w.heap.size (cutA A us c) (cells (b.drop us)) := by simpa [cells, List.map_drop] using hq
  have := aS6 (cutA A us c) (b.drop us) (c - us) (some ⟨w2.heap.size, 0, none⟩) 1 1 G 2 T cs (w2.alloc (.cells [Value.pointer (some ⟨G, 2, none⟩)].toArray 155)).drew ((m7.more l8).below g7 |>.more g7.size) (fun h0 => cD3 (HA.out (by rw [lZ] at h0; omega))) (by rw [lZ]; omega) (by rw [lZ]; omega) (by omega)
   ((aG4 w2 155 [Value.pointer (some ⟨G, 2, none⟩)]).more (by simp)) (fun ad e => by injection e with e; subst e; show w2.heap.size ≠ G; omega) (HG.out.below (b8.out.trans (g7.mono l8)) m4) (by omega) (fun i hi => by
    obtain rfl : i = 0 := by omega
    exact ⟨_, g8.out.2, rfl⟩)
  rw [lZ] at this;exact this)
 have hcut := fun W : World => aO1 (P := Tryz.prog) Tryz.underlying34 aG0 A b.length c us i4 (us : Int) rfl W
 go_wp2_with fail
 refine aD4 12 rfl (S := fun _ => True) trivial (fun hHeld => ?_);refine zU 0 (k := ?_);refine zU 1 (k := ?_);refine zU 2 (k := ?_);refine zU 3 (k := ?_);refine zU 4 (k := ?_);refine zU 5 (k := ?_);simp only [zA, zB, zF, zG, zC, zD, zE];refine zW 6 (k := fun K hK => ?_);simp only [zA, zB];go_simp;refine hK _ _ trivial (fun hHeld => ?_);clear hK K;try simp only [zF, zG, zC, zD, zE]
 refine zW 7 (k := fun K hK => ?_);simp only [zA, zB];go_simp;refine j6.out.mono ?_;rintro e w3 ⟨v, rfl, l4, ⟨f9, m9, f8, i6⟩, Ar, rr, cr, rfl, n9, n6, m8, i2⟩;refine hK _ _ trivial (fun hHeld => ?_);clear hK K;try simp only [zF, zG, zC, zD, zE]
 have j8 : w.grownBy w3 (some G) := aB8 (aB8 (aA5 b8.out (some G)) hW (.inl rfl)) l4 (.inl rfl);obtain ⟨t, l9, i3⟩ : ∃ t, aM4 cs 2 f9 = cs.setIfInBounds 2 (.int .i64 t) ∧ ∀ r, (aD9 1 (b.drop us)).2 = some r -> (aD9 1 (b.drop us)).1 = [t] := by
  match f9, m9 with
  | [], _ => exact ⟨t0, by rw [aM4, bV4 cs 2 _ g8.out.2], fun r h => by have := (i6 r h).2; simp at this⟩
  | [x], _ => exact ⟨x, by rw [aM4, aM4], fun r h => (i6 r h).1.symm⟩
 rw [l9] at f8;have c1 : w3.cell? ⟨G, 1, none⟩ = some (.int .i64 f0) := by
  refine (f8.cell 1).trans ?_;rw [Array.getElem?_setIfInBounds_ne (by omega)];exact g8.out.1
 have cf : w3.frozen? ⟨G, 1, none⟩ = false := f8.frozen _;have a8 : Hid ((aK1 b).isSome = ((aD9 1 (b.drop us)).2.isSome && ((rr.length : Int) == 0)) ∧ ∀ q, aK1 b = some q -> ((nv : Int), t) = q) := qZ (by
  rw [HN.out];rcases hN : aD9 1 (b.drop us) with ⟨N1, _ | r⟩
  ·simp
  rw [hN] at i3 i2;have e1 : N1 = [t] := i3 r rfl;subst e1;obtain rfl : r = rr := i2;cases r with
  | nil => simp
  | cons x y => simp; omega)
 have m2 := qZ j8;have m0 := qZ f8;generalize (aD9 1 (b.drop us)).2.isSome = okv at a8 ⊢
 clear j8 f8 l9 i3 i2 i6 l4 m8 hcut j6 hW g7 HN;refine zU 8 (k := ?_);refine zU 9 (k := ?_);refine zU 10 (k := ?_);refine zU 11 (k := ?_);simp only [zA, zB, zF, zG, zC, zD, zE];refine aH0 (t := 12) (by simp) (by kernel_rfl) (by kernel_rfl) (fun K hK => ?_);simp only [zA, zB];go_simp;refine hK _ _ ?_;clear hK K hHeld;have l5 : w.grownBy (w3.setCell ⟨G, 1, none⟩ (.int .i64 nv)) (some G) := aB8 m2.out ⟨rfl, rfl, rfl, (aA0 w3 G 1 (.int .i64 nv)).size, (aA0 w3 G 1 (.int .i64 nv)).block⟩ (.inl rfl);have j9 : Blk (w3.setCell ⟨G, 1, none⟩ (.int .i64 nv)) G T ((cs.setIfInBounds 2 (.int .i64 t)).setIfInBounds 1 (.int .i64 nv)) := m0.out.set_ 1 (.int .i64 nv);have g6 := qZ (And.intro l5 j9);clear l5 j9;cases okv
 ·go_wp2_with fail
  go_ret
  exact ⟨by rw [a8.out.1]; rfl, g6.out.1, (nv : Int), t, g6.out.2, a8.out.2⟩
 go_wp2_with fail
 go_ret
 exact ⟨by rw [a8.out.1]; rfl, g6.out.1, (nv : Int), t, g6.out.2, a8.out.2⟩
end
section
open Go.RowKit Go.Maps Oct
theorem cU9 {w : World} {base g m : Nat} {p : PWD} {room : Int} {es : List (Nm × FE)} (h : aB0 w base g m p room es) (l4 : ∀ q ∈ es, q.2.f.b.length <= 1000000000) {gj : Nat} {t0 v0 : Int} {sv : Value} {bad : Int} (hJ : Blk w gj 53 #[.int .i64 t0, .int .i64 v0, sv, .pointer (some ⟨g, 0, none⟩), .int .i64 bad])
  (hz : t0 = 0 ∧ v0 = 0) :
  Calls Tryz.prog 51 #[.pointer (some ⟨gj, 0, none⟩)] w fun e w' => e = .returned (.bool (aH2 (aD2 p room es)).isSome) ∧ w.grownBy w' (some gj) ∧ ∃ t v, Blk w' gj 53 #[.int .i64 t, .int .i64 v, sv, .pointer (some ⟨g, 0, none⟩), .int .i64 bad] ∧ ∀ q, aH2 (aD2 p room es) = some q -> (t, v) = q := by
 have e9 := qZ (bJ1 h ⟨#[109, 101, 116, 97]⟩ (by show 4 <= _; omega) (fun q hq => by have := l4 q hq; omega));obtain ⟨RD, f9⟩ : ∃ R, R = (aD2 p room es).read aO9 := ⟨_, rfl⟩
 have p8 : RD.1.length <= 1000000000 := by
  rw [f9];unfold DkD.read;split
  ·simp
  split
  ·simp
  rename_i f hf
  have := aC7 hf;obtain ⟨q, hq, e⟩ := List.mem_map.1 this;injection e with e1 e2
  rw [<- e2];exact l4 q hq
 change Hid (Calls _ _ _ _ fun e w' => ∃ v, e = .returned (.tuple #[v, .int .i64 ((aD2 p room es).read aO9).2]) ∧ Bs w' w.heap.size v ((aD2 p room es).read aO9).1 ∧ Below w.heap.size w w') at e9;have hM : aH2 (aD2 p room es) = if RD.2 ≠ 0 then some (0, 0) else if (aD7 RD.1).2.2 ≠ 0 ∨ (aD7 RD.1).2.1 ≠ RD.1.length then none else
  match aD9 2 (aD7 RD.1).1 with
  | ([t, v], some []) => some (t, v)
  | _ => none := by
  unfold aH2;rw [<- f9] <;> (obtain ⟨a, b⟩ := RD; rfl)
 obtain ⟨M, n6⟩ : ∃ M, M = aH2 (aD2 p room es) := ⟨_, rfl⟩
 rw [<- n6] at hM ⊢;rw [<- f9] at e9;have HM := qZ hM;have HJ := qZ hJ;have HZ := qZ hz;have j3 : w.cell? ⟨gj, 3, none⟩ = some (.pointer (some ⟨g, 0, none⟩)) := hJ.cell 3;have p6 := hJ.lt;obtain ⟨rb, re⟩ := RD;simp only at p8 HM e9;clear h l4 f9 hM n6 hJ hz;go_enter Tryz.func51, Tryz.ntmps51
 go_wp2_with fail
 refine e9.out.mono ?_;rintro e w2 ⟨v2, rfl, o8, g6⟩;obtain ⟨A2, c2, rfl, q1, q2, q3⟩ := aD5 o8;have p9 := g6.size;have i2 := qZ g6;have i4 := qZ (HJ.out.below g6 p6);have m2 := qZ (cK1 A2 rb rb.length c2 rfl w2 q3 q1 ⟨by omega, by omega⟩);clear e9 g6 o8 q3 j3;by_cases h0 : re = 0
 rotate_left
 ·have hn : M = some (0, 0) := by rw [HM.out, if_pos h0]
  subst hn;clear HM;go_wp2_with fail
  go_ret
  exact ⟨rfl, aA5 i2.out _, t0, v0, i4.out, fun q h => by injection h with h; rw [<- h, HZ.out.1, HZ.out.2]⟩
 subst h0;go_wp2_with fail
 refine m2.out.mono ?_;rintro e w3 ⟨v3, rfl, i1, g7⟩;obtain ⟨pl, g9⟩ : ∃ x, x = (aD7 rb).1 := ⟨_, rfl⟩
 obtain ⟨pu, l7⟩ : ∃ x, x = (aD7 rb).2.1 := ⟨_, rfl⟩
 obtain ⟨pe, g8⟩ : ∃ x, x = (aD7 rb).2.2 := ⟨_, rfl⟩
 rw [<- g9] at i1;rw [<- l7, <- g8];have j8 := HM.out;rw [if_neg (by simp), <- g9, <- l7, <- g8] at j8;have l6 : pe = 0 -> pl.length <= 1048576 := by
  rw [g9, g8];exact fun h => (aW3 h).1
 clear g9 l7 g8 m2 HM;have a9 := qZ j8;obtain ⟨A3, c3, rfl, y1, y2, y3⟩ := aD5 i1;have p4 : Hid (∀ ad, A3 = some ad -> w2.heap.size <= ad.block) := qZ (fun ad e => (Own.lt i1 ad.block (by subst e; rfl)).1);have q8 := g7.size;have f8 := qZ (i2.out.trans (g7.mono p9));have d8 := qZ (i4.out.below g7 (by omega));have m3 := qZ y3;clear j8 i1 g7 y3 i2 i4;by_cases h1 : pe = 0
 rotate_left
 ·have hn : M = none := by rw [a9.out, if_pos (.inl h1)]
  subst hn;clear a9;go_wp2_with fail
  go_ret
  exact ⟨rfl, aA5 f8.out _, t0, v0, d8.out, fun q h => by cases h⟩
 subst h1;by_cases h2 : (pu : Int) = (rb.length : Int)
 rotate_left
 ·have hn : M = none := by rw [a9.out, if_pos (.inr (fun h => h2 (by omega)))]
  subst hn;clear a9;have q5 : ((pu : Int) != (rb.length : Int)) = true := bne_iff_ne.2 h2;go_wp2_with fail
  go_ret
  exact ⟨rfl, aA5 f8.out _, t0, v0, d8.out, fun q h => by cases h⟩
 have j9 := a9.out;rw [if_neg (by rintro (h | h); exact h rfl; exact h (by omega))] at j9;have m0 := qZ j9;have H2 := qZ h2;clear j9 a9;have q7 : pl.length <= 1048576 := l6 rfl;have p7 : w3.heap.size <= (w3.drew.alloc (.cells [Value.pointer (some ⟨gj, 0, none⟩), Value.pointer (some ⟨gj, 1, none⟩)].toArray 155)).heap.size := by simp
 have l5 : gj < w3.heap.size := d8.out.lt;have p5 : gj < w2.heap.size := by omega
 have m4 : Hid (Calls Tryz.prog 104 #[.slice A3 pl.length c3, .slice (some ⟨w3.heap.size, 0, none⟩) 2 2] (w3.drew.alloc (.cells [Value.pointer (some ⟨gj, 0, none⟩), Value.pointer (some ⟨gj, 1, none⟩)].toArray 155)) _) := qZ (by
  have b8 : Below w3.heap.size w3 (w3.drew.alloc (.cells [Value.pointer (some ⟨gj, 0, none⟩), Value.pointer (some ⟨gj, 1, none⟩)].toArray 155)) := ((lS _ w3).drew).alloc (by simp) _;exact aS6 A3 pl c3 (some ⟨w3.heap.size, 0, none⟩) 2 2 gj 0 53 _ (w3.drew.alloc (.cells [Value.pointer (some ⟨gj, 0, none⟩), Value.pointer (some ⟨gj, 1, none⟩)].toArray 155)) ((m3.out.below b8).more b8.size) (fun h0 ad e => by have := p4.out ad e; omega) y1 (by omega) (by omega)
   ((aG4 w3.drew 155 [Value.pointer (some ⟨gj, 0, none⟩), Value.pointer (some ⟨gj, 1, none⟩)]).more (by simp)) (fun ad e => by injection e with e; subst e; show w3.heap.size ≠ gj; omega) (d8.out.below b8 l5) (by omega) (fun i hi => by
    rcases (by omega : i = 0 ∨ i = 1) with rfl | rfl
    ·exact ⟨_, rfl, rfl⟩
    exact ⟨_, rfl, rfl⟩))
 go_upto_region 7 with fail
 refine wp_region_held_drew (S := fun _ => True) (by kernel_rfl) trivial (fun hHeld => ?_);refine zT 0 (k := ?_);refine zT 1 (k := ?_);refine zT 2 (k := ?_);refine zT 3 (k := ?_);refine zT 4 (k := ?_);refine zT 5 (k := ?_);refine zT 6 (k := ?_);refine zT 7 (k := ?_);refine zT 8 (k := ?_);simp only [zA, zB, zF, zG, zC, zD, zE];refine zV 9 (k := fun K hK => ?_);simp only [zA, zB];go_simp;refine hK.out _ _ trivial (fun hHeld => ?_);clear hK K;try simp only [zF, zG, zC, zD, zE]
 refine zV 10 (k := fun K hK => ?_);simp only [zA, zB];go_simp;refine m4.out.mono ?_;rintro e w4 ⟨v4, rfl, n7, ⟨f7, p0, m8, o9⟩, Ar, rr, cr, rfl, z1, z2, z3, z4⟩;have l8 := qZ n7;have l9 := qZ m8;have m6 := qZ o9;have m7 := qZ z4;clear n7 m8 o9 z3 z4 m4 m3;refine hK.out _ _ trivial (fun hHeld => ?_);clear hK K;try simp only [zF, zG, zC, zD, zE]
 refine zT 11 (k := ?_);refine zT 12 (k := ?_);refine zT 13 (k := ?_);refine zT 14 (k := ?_);refine zT 15 (k := ?_);simp only [zA, zB, zF, zG, zC, zD, zE];refine wpAnyH_done (by kernel_rfl) ?_ _;have b8 : Below w3.heap.size w3 (w3.drew.alloc (.cells [Value.pointer (some ⟨gj, 0, none⟩), Value.pointer (some ⟨gj, 1, none⟩)].toArray 155)) := ((lS _ w3).drew).alloc (by simp) _;have i3 := qZ (aB8 (aB8 (aA5 f8.out (some gj)) (aA5 b8 (some gj)) (.inl rfl)) l8.out (.inl rfl));clear b8 l8 p7 d8 f8;have a8 : ∃ t v, aM4 #[.int .i64 t0, .int .i64 v0, sv, .pointer (some ⟨g, 0, none⟩), .int .i64 bad] 0 f7 = #[.int .i64 t, .int .i64 v, sv, .pointer (some ⟨g, 0, none⟩), .int .i64 bad] ∧ ∀ r, (aD9 2 pl).2 = some r -> (aD9 2 pl).1 = [t, v] := by
  match f7, p0, m6.out with
  | [], _, hv => exact ⟨t0, v0, rfl, fun r h => by have := (hv r h).2; simp at this⟩
  | [x], _, hv => exact ⟨x, v0, rfl, fun r h => by have := (hv r h).2; simp at this⟩
  | [x, y], _, hv => exact ⟨x, y, rfl, fun r h => (hv r h).1.symm⟩
 obtain ⟨t, v, n9, o7⟩ := a8;have j6 := l9.out;rw [n9] at j6;have i6 := qZ j6;have m5 := qZ o7;clear l9 m6 n9 o7 j6 p0;have m9 : M = match (aD9 2 pl).2 with
  | some [] => some (t, v)
  | _ => none := by
  rw [m0.out];have h9 := m5.out;generalize aD9 2 pl = T at h9 ⊢
  obtain ⟨a, _ | r⟩ := T
  ·simp
  obtain rfl : a = [t, v] := h9 r rfl;cases r <;> rfl
 have a7 := qZ m9;obtain ⟨ob, n8⟩ : ∃ o, o = (aD9 2 pl).2 := ⟨_, rfl⟩
 rw [<- n8] at a7 m7 ⊢;clear m9 m0 n8 m5;cases ob with
 | none =>
  have hn : M = none := a7.out;subst hn;clear a7;go_wp2_with fail
  go_ret
  exact ⟨rfl, i3.out, t, v, i6.out, fun q h => by cases h⟩
 | some r =>
  obtain rfl : r = rr := m7.out;cases r with
  | nil =>
   have hn : M = some (t, v) := a7.out;subst hn;clear a7;go_wp2_with fail
   go_ret
   exact ⟨rfl, i3.out, t, v, i6.out, fun q h => by injection h⟩
  | cons x y =>
   have hn : M = none := a7.out;subst hn;clear a7;have q6 : (((x :: y).length : Int) == 0) = false := by simp; omega
   go_wp2_with fail
   go_ret
   exact ⟨rfl, i3.out, t, v, i6.out, fun q h => by cases h⟩
end
section
open Go.ChangeShapes Go.WideShapes Go.ChangeAt Go.RowKit Go.Joins Go.Deep Oct
theorem aN0 {H : Type} (d : DataW H) : 1 <= Rows.uptoBulk d := by
 cases d with
 | lit l => cases l <;> simp [Rows.uptoBulk]
 | nil => simp [Rows.uptoBulk]
 | ptr d => simp [Rows.uptoBulk]
 | slice elems spare => simp [Rows.uptoBulk]
 | agg parts => simp [Rows.uptoBulk]
 | iface t d => simp [Rows.uptoBulk]
 | map entries => simp [Rows.uptoBulk]
 | held h => simp [Rows.uptoBulk]
theorem cH8 {H : Type} : ∀ (l : List (DataW H)), Rows.uptoBulkAll l = (l.map Rows.uptoBulk).sum
 | [] => rfl
 | x :: r => by rw [Rows.uptoBulkAll, cH8 r]; rfl
theorem cH9 {H : Type} (l : List (DataW H)) : l.length <= Rows.uptoBulkAll l := by
 induction l with
 | nil => simp
 | cons x r ih => have := aN0 x; simp only [Rows.uptoBulkAll, mC]; omega
theorem bB8 {H : Type} {α : Type} (f : α -> Nat) (D : Nat -> DataW H) : ∀ (n : Nat) (xs : List α), xs.length = n -> (∀ k (hk : k < xs.length), f xs[k] <= Rows.uptoBulk (D k)) -> (xs.map f).sum <= Rows.uptoBulkAll ((List.range n).map D)
 | 0, xs, hx, _ => by
  rw [mD hx];simp
 | n + 1, xs, hx, h => by
  rcases mJ xs with h0 | ⟨r, x, h0⟩
  ·rw [h0] at hx; cases hx
  rw [mA] at h0;subst h0;have hr : r.length = n := by simpa using hx
  have h1 := bB8 f D n r hr (fun k hk => by
   have := h k (by simp; omega)
   rwa [List.getElem_append_left hk] at this)
  have h2 := h r.length (by simp);rw [List.getElem_append_right (lR _)] at h2;simp only [Nat.sub_self, List.getElem_cons_zero] at h2;rw [hr] at h2;rw [cH8] at h1 ⊢;rw [List.range_succ, mE, mE, mE, List.sum_append, List.sum_append];simp only [mG, List.map_nil, List.sum_cons, List.sum_nil];omega
theorem cX8 {w : World} {A : Option Addr} {xs : List Value} (h : Rd w w.heap.size A xs) : RdF w (fun k => k < w.heap.size) A xs := fun h0 => by
 obtain ⟨ad, rfl, hb, hc⟩ := h h0;have h1 := hc 0 xs[0] (lW h0);have e0 : ad.add 0 = ad := rfl;rw [e0] at h1;obtain ⟨b, o, s⟩ := ad;cases s with
 | none => exact ⟨b, o, rfl, hb, hb, fun j u hu => by rw [<- add_lit]; exact hc j u hu⟩
 | some s =>
  exfalso
  unfold World.cell? at h1;split at h1 <;> simp at h1
structure bV8 (w : World) (A : Option Addr) (rs : List aD8) (c : Nat) : Prop where
 rd : RdF w (fun k => k < w.heap.size) A (aA7 rs)
 dat : ∀ q ∈ rs, bB7 w (fun k => k < w.heap.size) q.v q.e.b
 num : ∀ q ∈ rs, (-9223372036854775808 <= q.e.ix ∧ q.e.ix <= 9223372036854775807) ∧ (-9223372036854775808 <= q.e.tm ∧ q.e.tm <= 9223372036854775807) ∧ (-9223372036854775808 <= q.e.kd ∧ q.e.kd <= 9223372036854775807)
 le : rs.length <= c
 cap : c * 48 <= 140737488351232
def aV0 (rs : List aD8) : Nat := (rs.map fun q => q.e.b.length + 5).sum
section
variable {H : Type} {enc : TypeId × Value -> H} {P : Program} {W : World} {base : Nat}
theorem cA1 {t e : TypeId} {k : IntKind} (ht : P.underlying t = some (.slice e)) (he : P.underlying e = some (.int k)) (hc : P.cellsOf e = 1)
  {v : Value} {fuel : Nat} {y : DataW H × List MemPlace} (hf : DataW.trod enc P W 0 (fun _ => true) true fuel t [v] = some y) (hw : ∀ n ∈ y.1.weights P t, n <= reachBytes) :
  ∃ (A : Option Addr) (z : List Int) (c : Nat), v = .slice A z.length c ∧ Rd W W.heap.size A (z.map (Value.int k)) ∧ z.length <= c ∧ c * P.bytesOf e <= reachBytes ∧ (∀ n ∈ z, (Lit.int k n).wf = true) ∧ z.length + 1 <= Rows.uptoBulk y.1 := by
 rcases open_ints ht he hc hf with ⟨a8, hx⟩ | ⟨a, l, c, zs, a8, _, hl, hm, hz, hx, a7, b8⟩
 ·simp at a8
  subst a8;exact ⟨none, [], 0, rfl, Rd.none_, by simp, by simp, by simp, aN0 _⟩
 simp at a8
 subst a8;subst hx;simp only [if_true] at hz;have a9 : (zs.take l).length = l := by simp; omega
 refine ⟨some a, zs.take l, c, by rw [a9], ?_, by omega, ?_, fun n hn => b8 n (List.mem_of_mem_take hn), ?_⟩
 ·intro h0
  have h1 : 0 < zs.length := by
   rw [lU, a9] at h0;omega
  refine ⟨a, rfl, ?_, fun j u hu => ?_⟩
  ·exact mI W a (by have := a7 0 h1; simpa [Addr.add] using this)
  rw [List.getElem?_map] at hu;obtain ⟨n, hn, rfl⟩ := Option.map_eq_some_iff.1 hu;rw [List.getElem?_take] at hn;split at hn
  ·have hj : j < zs.length := (List.getElem?_eq_some_iff.1 hn).1
   rw [a7 j hj];simp [List.getD, hn]
  cases hn
 ·have := hw (((lits (H := H) k (zs.take l)).length + (lits (H := H) k (zs.drop l)).length) * P.bytesOf e) (by simp [DataW.weights, ht])
  simp only [lits, lU, lV, lZ] at this;rw [show min l zs.length + (zs.length - l) = c by omega] at this;exact this
 have h1 := cH9 (lits (H := H) k (zs.take l));have h2 : (lits (H := H) k (zs.take l)).length = (zs.take l).length := by simp [lits]
 simp only [Rows.uptoBulk];omega
theorem bI6 {t e : TypeId} (ht : P.underlying t = some (.slice e)) (he : P.underlying e = some (.int .u8)) (hc : P.cellsOf e = 1) (a9 : P.bytesOf e = 1)
  {v : Value} {fuel : Nat} {y : DataW H × List MemPlace} (hf : DataW.trod enc P W 0 (fun _ => true) true fuel t [v] = some y) (hw : ∀ n ∈ y.1.weights P t, n <= reachBytes) :
  ∃ (A : Option Addr) (l : List UInt8) (c : Nat), v = .slice A l.length c ∧ In8 W A l c ∧ l.length + 1 <= Rows.uptoBulk y.1 := by
 obtain ⟨A, z, c, rfl, hr, hl, a7, b8, a8⟩ := cA1 ht he hc hf hw;refine ⟨A, z.map fun n => UInt8.ofNat n.toNat, c, by rw [lU], ⟨by rw [<- dN3 z b8]; exact hr, by rw [lU]; exact hl, ?_⟩, by rw [lU]; exact a8⟩;rw [a9] at a7;simp only [reachBytes] at a7;omega
def dM1 (w : World) (ad : Addr) (k : Nat) (q : aD8) : Prop :=
 (∀ j, (hj : j < 4) -> w.cell? ((ad.add (k * 4)).add j) = (aM6 q)[j]?) ∧ bB7 w (fun k => k < w.heap.size) q.v q.e.b ∧ ((-9223372036854775808 <= q.e.ix ∧ q.e.ix <= 9223372036854775807) ∧ (-9223372036854775808 <= q.e.tm ∧ q.e.tm <= 9223372036854775807) ∧ (-9223372036854775808 <= q.e.kd ∧ q.e.kd <= 9223372036854775807))
theorem cS6 {t e q : TypeId} {f0 f1 f2 f3 : Field} (ht : P.underlying t = some (.slice e)) (he : P.underlying e = some (.struct #[f0, f1, f2, f3])) (a8 : oneCellFields P #[f0, f1, f2, f3] = true) (hC : P.cellsOf e = 4) (be : P.bytesOf e = 48)
  (u0 : P.underlying f0.type = some (.int .i64)) (u1 : P.underlying f1.type = some (.int .i64)) (u2 : P.underlying f2.type = some (.int .i64)) (u3 : P.underlying f3.type = some (.slice q)) (uq : P.underlying q = some (.int .u8)) (cq : P.cellsOf q = 1) (bq : P.bytesOf q = 1)
  {v : Value} {fuel : Nat} {y : DataW H × List MemPlace} (hf : DataW.trod enc P W 0 (fun _ => true) true fuel t [v] = some y) (hw : ∀ n ∈ y.1.weights P t, n <= reachBytes) :
  ∃ (A : Option Addr) (rs : List aD8) (c : Nat), v = .slice A rs.length c ∧ bV8 W A rs c ∧ aV0 rs + 1 <= Rows.uptoBulk y.1 := by
 rcases open_slice ht hf with ⟨a9, hx⟩ | ⟨a, l, c, m, n, D, Pl, a9, _, hl, hm, f9, hx, hi⟩
 ·simp at a9
  subst a9;exact ⟨none, [], 0, rfl, ⟨RdF.nil, (fun q hq => by cases hq), (fun q hq => by cases hq), by simp, by simp⟩, aN0 _⟩
 simp at a9
 subst a9;simp only [if_true] at f9;subst f9;subst hx;have f8 : m * 48 <= 140737488351232 := by
  have := hw (((List.range l).length + (List.range (m - l)).length) * P.bytesOf e) (by simp [DataW.weights, ht]);simp only [List.length_range, reachBytes, be] at this;rw [show l + (m - l) = m by omega] at this;omega
 obtain ⟨rs, g6, a7⟩ := cE9 (G := fun k p => dM1 W a k p ∧ p.e.b.length + 5 <= Rows.uptoBulk (D k)) l (fun k hk => by
  obtain ⟨g7, hc, i6⟩ := hi k (by omega);rw [hC] at hc;obtain ⟨ys, n', _, hy, i3, j8, d8⟩ := DataW.trod_struct he i6;obtain ⟨_, i1, b8⟩ := World.cells?_some hc;have g8 : ∀ x ∈ (D k).weights P e, x <= reachBytes := fun x hx => hw x (by
   simp only [DataW.weights, ht];exact List.mem_cons_of_mem _ (List.mem_append_left _ (aW5 (List.mem_map.2 ⟨k, List.mem_range.2 hk, rfl⟩) hx)))
  simp only [Prod.mk.injEq] at hy
  match g7, i1, ys, j8 with
  | [c0, c1, c2, c3], _, [y0, y1, y2, y3], _ =>
   obtain ⟨o0, k0⟩ := hone_of a8 0 f0 rfl;obtain ⟨o1, k1⟩ := hone_of a8 1 f1 rfl;obtain ⟨o2, k2⟩ := hone_of a8 2 f2 rfl;obtain ⟨o3, k3⟩ := hone_of a8 3 f3 rfl;have t0 := d8 0 f0 rfl;have t1 := d8 1 f1 rfl;have t2 := d8 2 f2 rfl;have t3 := d8 3 f3 rfl;simp [o0, k0] at t0
   simp [o1, k1] at t1
   simp [o2, k2] at t2
   simp [o3, k3] at t3
   obtain ⟨i, rfl, i2⟩ := aW9 u0 t0;obtain ⟨tt, rfl, j6⟩ := aW9 u1 t1;obtain ⟨nn, rfl, i4⟩ := aW9 u2 t2;obtain ⟨B, lb, cb, rfl, hB, j9⟩ := bI6 u3 uq cq bq t3 (fun x hx => g8 x (by
    rw [hy.1];simp only [DataW.weights, he, mG, List.map_nil, DataW.weightsEach, List.mem_append];exact .inr (.inr (.inr (.inl hx)))))
   have f7 := hB.le;have g9 := hB.cap;refine ⟨⟨.slice B lb.length cb, ⟨i, tt, nn, lb⟩⟩, ⟨fun j hj => ?_, ⟨B, cb, rfl, f7, by omega, cX8 hB.rd⟩, i2, j6, i4⟩, ?_⟩
   ·match j, hj with
    | 0, _ => exact b8 0 (by omega)
    | 1, _ => exact b8 1 (by omega)
    | 2, _ => exact b8 2 (by omega)
    | 3, _ => exact b8 3 (by omega)
   rw [hy.1];have b0 := aN0 y0.1;have b1 := aN0 y1.1;have b2 := aN0 y2.1;simp only [mG, List.map_nil, Rows.uptoBulk, Rows.uptoBulkAll];show lb.length + 5 <= _
   omega)
 have e9 : ∀ k j, (a.add (k * 4)).add j = a.add (k * 4 + j) := fun k j => by rw [Addr.add_add]
 refine ⟨some a, rs, m, by rw [g6], ⟨cX8 (fun h0 => ?_), fun q hq => ?_, fun q hq => ?_, by omega, f8⟩, ?_⟩
 ·rw [aC0] at h0
  have h1 := (a7 0 (by omega)).1.1 0 (by omega);refine ⟨a, rfl, ?_, fun j u hu => ?_⟩
  ·have h2 := mI W _ h1
   rwa [aC5, aC5] at h2
  have hj : j < 4 * rs.length := by
   have := (List.getElem?_eq_some_iff.1 hu).1
   rwa [aC0] at this
  have e : j = j / 4 * 4 + j % 4 := by omega
  rw [e, aE6 rs (by omega) (by omega)] at hu;rw [e, <- e9, (a7 (j / 4) (by omega)).1.1 (j % 4) (by omega), hu]
 ·obtain ⟨k, hk, rfl⟩ := List.getElem_of_mem hq
  exact (a7 k hk).1.2.1
 ·obtain ⟨k, hk, rfl⟩ := List.getElem_of_mem hq
  exact (a7 k hk).1.2.2
 have h1 := bB8 (fun q : aD8 => q.e.b.length + 5) D l rs g6 (fun k hk => (a7 k hk).2);unfold aV0;simp only [Rows.uptoBulk];omega
end
structure aX4 where
 o : Int
 n : Int
 m : Int
 Al : Option Addr
 rs : List aD8
 cl : Nat
 Ak : Option Addr
 kz : List Int
 ck : Nat
 nm : ByteArray
 Ab : Option Addr
 b : List UInt8
 cb : Nat
def aX4.cs (a : aX4) : List Value := [.int .i64 a.o, .int .i64 a.n, .int .i64 a.m, .slice a.Al a.rs.length a.cl, .slice a.Ak a.kz.length a.ck, .string a.nm, .slice a.Ab a.b.length a.cb]
structure aX4.Ok (w : World) (a : aX4) : Prop where
 n : -9223372036854775808 <= a.n ∧ a.n <= 9223372036854775807
 m : -9223372036854775808 <= a.m ∧ a.m <= 9223372036854775807
 l : bV8 w a.Al a.rs a.cl
 k : cH2 w a.Ak a.kz a.ck
 nl : a.nm.size <= 140737488351232
 b : In8 w a.Ab a.b a.cb
def aX4.wt (a : aX4) : Nat := aV0 a.rs + a.kz.length + a.nm.size + a.b.length + 7
theorem cV6 (acs : List aX4) {k : Nat} (hk : k < acs.length) {j : Nat} (hj : j < 7) : (acs.flatMap aX4.cs)[k * 7 + j]? = (acs[k].cs)[j]? := by
 induction acs generalizing k with
 | nil => simp at hk
 | cons x r ih =>
  rw [List.flatMap_cons];cases k with
  | zero => rw [List.getElem?_append_left (by simp [aX4.cs]; omega)]; simp
  | succ k =>
   rw [List.getElem?_append_right (by simp [aX4.cs]; omega)];have : (k + 1) * 7 + j - x.cs.length = k * 7 + j := by simp [aX4.cs]; omega
   rw [this, ih (by simpa using hk)]
   rfl
theorem bT4 (acs : List aX4) : (acs.flatMap aX4.cs).length = 7 * acs.length := by
 induction acs with
 | nil => rfl
 | cons x r ih => rw [List.flatMap_cons, lT, ih]; simp [aX4.cs]; omega
structure cC4 (w : World) (A : Option Addr) (acs : List aX4) (c : Nat) : Prop where
 rd : RdF w (fun k => k < w.heap.size) A (acs.flatMap aX4.cs)
 ok : ∀ a ∈ acs, a.Ok w
 le : acs.length <= 4611686018427387904
def dM2 (w : World) (ad : Addr) (k : Nat) (a : aX4) : Prop :=
 (∀ j, (hj : j < 7) -> w.cell? ((ad.add (k * 7)).add j) = a.cs[j]?) ∧ a.Ok w
section
variable {H : Type} {enc : TypeId × Value -> H} {P : Program} {W : World} {base : Nat}
theorem bP3 {e q ee ei : TypeId} {f0 f1 f2 f3 f4 f5 f6 s0 s1 s2 s3 : Field} (he : P.underlying e = some (.struct #[f0, f1, f2, f3, f4, f5, f6])) (a7 : oneCellFields P #[f0, f1, f2, f3, f4, f5, f6] = true)
  (u0 : P.underlying f0.type = some (.int .i64)) (u1 : P.underlying f1.type = some (.int .i64)) (u2 : P.underlying f2.type = some (.int .i64))
  (u3 : P.underlying f3.type = some (.slice ee)) (hs : P.underlying ee = some (.struct #[s0, s1, s2, s3])) (a9 : oneCellFields P #[s0, s1, s2, s3] = true) (cee : P.cellsOf ee = 4) (bee : P.bytesOf ee = 48)
  (v0 : P.underlying s0.type = some (.int .i64)) (v1 : P.underlying s1.type = some (.int .i64)) (v2 : P.underlying s2.type = some (.int .i64)) (v3 : P.underlying s3.type = some (.slice q)) (uq : P.underlying q = some (.int .u8)) (cq : P.cellsOf q = 1) (bq : P.bytesOf q = 1)
  (u4 : P.underlying f4.type = some (.slice ei)) (ue : P.underlying ei = some (.int .i64)) (ce : P.cellsOf ei = 1) (bei : P.bytesOf ei = 8) (u5 : P.underlying f5.type = some .string) (u6 : P.underlying f6.type = some (.slice q))
  {fuel : Nat} {cs' : List Value} {y : DataW H × List MemPlace} (i6 : DataW.trod enc P W 0 (fun _ => true) true fuel e cs' = some y) (g6 : cs'.length = 7) (f9 : ∀ x ∈ y.1.weights P e, x <= reachBytes) :
  ∃ a : aX4, cs' = a.cs ∧ a.Ok W ∧ a.wt + 1 <= Rows.uptoBulk y.1 := by
 obtain ⟨ys, n', _, hy, i1, j6, a8⟩ := DataW.trod_struct he i6;have f8 : y.1 = .agg (ys.map (·.1)) := congrArg Prod.fst hy;obtain ⟨y0, y1, y2, y3, y4, y5, y6, rfl⟩ : ∃ y0 y1 y2 y3 y4 y5 y6, ys = [y0, y1, y2, y3, y4, y5, y6] := by
  match ys, j6 with
  | [y0, y1, y2, y3, y4, y5, y6], _ => exact ⟨_, _, _, _, _, _, _, rfl⟩
 match cs', g6 with
 | [c0, c1, c2, c3, c4, c5, c6], _ =>
  obtain ⟨o0, k0⟩ := hone_of a7 0 f0 rfl;obtain ⟨o1, k1⟩ := hone_of a7 1 f1 rfl;obtain ⟨o2, k2⟩ := hone_of a7 2 f2 rfl;obtain ⟨o3, k3⟩ := hone_of a7 3 f3 rfl;obtain ⟨o4, k4⟩ := hone_of a7 4 f4 rfl;obtain ⟨o5, k5⟩ := hone_of a7 5 f5 rfl;obtain ⟨o6, k6⟩ := hone_of a7 6 f6 rfl;have t0 := a8 0 f0 rfl;have t1 := a8 1 f1 rfl;have t2 := a8 2 f2 rfl;have t3 := a8 3 f3 rfl;have t4 := a8 4 f4 rfl;have t5 := a8 5 f5 rfl;have t6 := a8 6 f6 rfl;simp [o0, k0] at t0
  simp [o1, k1] at t1
  simp [o2, k2] at t2
  simp [o3, k3] at t3
  simp [o4, k4] at t4
  simp [o5, k5] at t5
  simp [o6, k6] at t6
  have b8 : ∀ x, (x ∈ y3.1.weights P f3.type ∨ x ∈ y4.1.weights P f4.type ∨ x ∈ y5.1.weights P f5.type ∨ x ∈ y6.1.weights P f6.type) -> x <= reachBytes := fun x hx => f9 x (by
   rw [f8];simp only [DataW.weights, he, mG, List.map_nil, DataW.weightsEach, List.mem_append];rcases hx with h | h | h | h
   ·exact .inr (.inr (.inr (.inl h)))
   ·exact .inr (.inr (.inr (.inr (.inl h))))
   ·exact .inr (.inr (.inr (.inr (.inr (.inl h)))))
   exact .inr (.inr (.inr (.inr (.inr (.inr (.inl h)))))))
  obtain ⟨o, rfl, l5⟩ := aW9 u0 t0;obtain ⟨nn, rfl, i3⟩ := aW9 u1 t1;obtain ⟨mm, rfl, i2⟩ := aW9 u2 t2;obtain ⟨eA, rs, ec, rfl, hE, j9⟩ := cS6 u3 hs a9 cee bee v0 v1 v2 v3 uq cq bq t3 (fun x hx => b8 x (.inl hx));obtain ⟨kA, kz, kc, rfl, g8, g7, d8, g9, l4⟩ := cA1 u4 ue ce t4 (fun x hx => b8 x (.inr (.inl hx)));obtain ⟨s, e9, f7, _⟩ := DataW.trod_string u5 t5;simp at e9
  subst e9;have i4 : s.size <= 140737488351232 := by
   have := b8 s.data.toList.length (.inr (.inr (.inl (by rw [f7]; simp [DataW.weights]))));simp only [reachBytes] at this
   simpa using this
  obtain ⟨bA, lb, bc, rfl, hB, j8⟩ := bI6 u6 uq cq bq t6 (fun x hx => b8 x (.inr (.inr (.inr hx))));refine ⟨⟨o, nn, mm, eA, rs, ec, kA, kz, kc, s, bA, lb, bc⟩, rfl, ⟨i3, i2, hE, ⟨g8, g7, ?_, fun n hn => bd_i64 (g9 n hn)⟩, i4, hB⟩, ?_⟩
  ·rw [bei] at d8
   simp only [reachBytes] at d8;omega
  have b0 := aN0 y0.1;have b1 := aN0 y1.1;have b2 := aN0 y2.1;have b5 : s.size + 1 <= Rows.uptoBulk y5.1 := by rw [f7]; simp [Rows.uptoBulk]
  rw [f8];simp only [mG, List.map_nil, Rows.uptoBulk, Rows.uptoBulkAll];unfold aX4.wt;simp only;omega
theorem open_lacts {t e q ee ei : TypeId} {f0 f1 f2 f3 f4 f5 f6 s0 s1 s2 s3 : Field} (ht : P.underlying t = some (.slice e)) (he : P.underlying e = some (.struct #[f0, f1, f2, f3, f4, f5, f6])) (e9 : oneCellFields P #[f0, f1, f2, f3, f4, f5, f6] = true) (hC : P.cellsOf e = 7)
  (u0 : P.underlying f0.type = some (.int .i64)) (u1 : P.underlying f1.type = some (.int .i64)) (u2 : P.underlying f2.type = some (.int .i64))
  (u3 : P.underlying f3.type = some (.slice ee)) (hs : P.underlying ee = some (.struct #[s0, s1, s2, s3])) (a9 : oneCellFields P #[s0, s1, s2, s3] = true) (cee : P.cellsOf ee = 4) (bee : P.bytesOf ee = 48)
  (v0 : P.underlying s0.type = some (.int .i64)) (v1 : P.underlying s1.type = some (.int .i64)) (v2 : P.underlying s2.type = some (.int .i64)) (v3 : P.underlying s3.type = some (.slice q)) (uq : P.underlying q = some (.int .u8)) (cq : P.cellsOf q = 1) (bq : P.bytesOf q = 1)
  (u4 : P.underlying f4.type = some (.slice ei)) (ue : P.underlying ei = some (.int .i64)) (ce : P.cellsOf ei = 1) (bei : P.bytesOf ei = 8) (u5 : P.underlying f5.type = some .string) (u6 : P.underlying f6.type = some (.slice q))
  {v : Value} {d : DataW H} {p : List MemPlace} (hv : Value.okWide P W .any base t v) (h : DataW.Trod enc P W 0 (fun _ => true) true t v d p) (hw : ∀ n ∈ d.weights P t, n <= reachBytes) (g8 : Rows.uptoBulk d <= 1048576) :
  ∃ (A : Option Addr) (acs : List aX4) (c : Nat), v = .slice A acs.length c ∧ cC4 W A acs c ∧ (acs.map aX4.wt).sum + 1 <= Rows.uptoBulk d := by
 obtain ⟨A, len, cap, rfl⟩ := okWide_slice ht hv;obtain ⟨f9, hf⟩ := h;rcases open_slice ht hf with ⟨a8, hx⟩ | ⟨a, l, c, m, n, D, Pl, a8, _, hl, hm, f7, hx, hi⟩
 ·simp [Value.cells] at a8
  obtain ⟨rfl, rfl, rfl⟩ := a8;exact ⟨none, [], 0, rfl, ⟨RdF.nil, (fun s hs => by cases hs), by simp⟩, aN0 _⟩
 simp [Value.cells] at a8
 obtain ⟨rfl, rfl, rfl⟩ := a8;simp only [if_true] at f7;subst f7;simp only [Prod.mk.injEq] at hx;obtain ⟨rfl, rfl⟩ := hx;obtain ⟨ss, f8, a7⟩ := cE9 (G := fun k s => dM2 W a k s ∧ s.wt <= Rows.uptoBulk (D k)) len (fun k hk => by
  obtain ⟨i3, hc, i2⟩ := hi k (by omega);rw [hC] at hc;obtain ⟨_, g9, g7⟩ := World.cells?_some hc;have g6 : ∀ x ∈ (D k).weights P e, x <= reachBytes := fun x hx => hw x (by
   simp only [DataW.weights, ht];exact List.mem_cons_of_mem _ (List.mem_append_left _ (aW5 (List.mem_map.2 ⟨k, List.mem_range.2 hk, rfl⟩) hx)))
  obtain ⟨ac, rfl, h2, h3⟩ := bP3 he e9 u0 u1 u2 u3 hs a9 cee bee v0 v1 v2 v3 uq cq bq u4 ue ce bei u5 u6 i2 g9 g6;refine ⟨ac, ⟨fun j hj => ?_, h2⟩, ?_⟩
  ·rw [g7 j hj]
  show ac.wt <= Rows.uptoBulk (D k)
  have h4 : ac.wt + 1 <= Rows.uptoBulk (D k) := h3;omega)
 have b8 : ∀ k j, (a.add (k * 7)).add j = a.add (k * 7 + j) := fun k j => by rw [Addr.add_add]
 have i1 := bB8 aX4.wt D len ss f8 (fun k hk => (a7 k hk).2);have i4 : Rows.uptoBulkAll ((List.range len).map D) + 1 <= 1048576 := by
  simp only [Rows.uptoBulk] at g8;omega
 have d8 := cH9 ((List.range len).map D);rw [lU, List.length_range] at d8;refine ⟨some a, ss, m, by rw [f8], ⟨cX8 (fun h0 => ?_), fun s hs => ?_, by omega⟩, ?_⟩
 ·rw [bT4] at h0
  have h1 := (a7 0 (by omega)).1.1 0 (by omega);refine ⟨a, rfl, ?_, fun j u hu => ?_⟩
  ·have h2 := mI W _ h1
   rwa [aC5, aC5] at h2
  have hj : j < 7 * ss.length := by
   have := (List.getElem?_eq_some_iff.1 hu).1
   rwa [bT4] at this
  have e : j = j / 7 * 7 + j % 7 := by omega
  rw [e, cV6 ss (by omega) (by omega)] at hu;rw [e, <- b8, (a7 (j / 7) (by omega)).1.1 (j % 7) (by omega), hu]
 ·obtain ⟨k, hk, rfl⟩ := List.getElem_of_mem hs
  exact (a7 k hk).1.2
 simp only [Rows.uptoBulk];omega
end
end
section
open Go.ChangeShapes Go.WideShapes Go.ChangeAt Go.RowKit Go.Joins Go.Deep Oct
section
variable {H : Type} {enc : TypeId × Value -> H} {P : Program} {W : World} {base : Nat}
theorem open_lact {e q ee ei : TypeId} {f0 f1 f2 f3 f4 f5 f6 s0 s1 s2 s3 : Field} (he : P.underlying e = some (.struct #[f0, f1, f2, f3, f4, f5, f6])) (a9 : oneCellFields P #[f0, f1, f2, f3, f4, f5, f6] = true) (hC : P.cellsOf e = 7)
  (u0 : P.underlying f0.type = some (.int .i64)) (u1 : P.underlying f1.type = some (.int .i64)) (u2 : P.underlying f2.type = some (.int .i64))
  (u3 : P.underlying f3.type = some (.slice ee)) (hs : P.underlying ee = some (.struct #[s0, s1, s2, s3])) (a7 : oneCellFields P #[s0, s1, s2, s3] = true) (cee : P.cellsOf ee = 4) (bee : P.bytesOf ee = 48)
  (v0 : P.underlying s0.type = some (.int .i64)) (v1 : P.underlying s1.type = some (.int .i64)) (v2 : P.underlying s2.type = some (.int .i64)) (v3 : P.underlying s3.type = some (.slice q)) (uq : P.underlying q = some (.int .u8)) (cq : P.cellsOf q = 1) (bq : P.bytesOf q = 1)
  (u4 : P.underlying f4.type = some (.slice ei)) (ue : P.underlying ei = some (.int .i64)) (ce : P.cellsOf ei = 1) (bei : P.bytesOf ei = 8) (u5 : P.underlying f5.type = some .string) (u6 : P.underlying f6.type = some (.slice q))
  {v : Value} {d : DataW H} {p : List MemPlace} (hv : Value.okWide P W .any base e v) (h : DataW.Trod enc P W 0 (fun _ => true) true e v d p) (hw : ∀ n ∈ d.weights P e, n <= reachBytes) :
  ∃ a : aX4, v = .agg #[.int .i64 a.o, .int .i64 a.n, .int .i64 a.m, .slice a.Al a.rs.length a.cl, .slice a.Ak a.kz.length a.ck, .string a.nm, .slice a.Ab a.b.length a.cb] ∧ a.Ok W ∧ a.wt + 1 <= Rows.uptoBulk d := by
 obtain ⟨cs, rfl, d8⟩ := okWide_struct he hv;obtain ⟨a8, hf⟩ := h;have b8 : DataW.trod enc P W 0 (fun _ => true) true a8 e cs.toList = some (d, p) := by simpa [Value.cells] using hf
 obtain ⟨a, h1, h2, h3⟩ := bP3 he a9 u0 u1 u2 u3 hs a7 cee bee v0 v1 v2 v3 uq cq bq u4 ue ce bei u5 u6 b8 (by simp [d8, hC]) hw;refine ⟨a, ?_, h2, h3⟩;have h4 : cs = a.cs.toArray := by rw [<- h1]
 rw [h4]
 rfl
end
end
end Go.Proofs.YtgeofijddhflaaaGreatDoor
