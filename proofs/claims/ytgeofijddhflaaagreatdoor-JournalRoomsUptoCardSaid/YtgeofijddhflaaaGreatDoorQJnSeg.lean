/- journal: a segment's last index and term, its length. Condition: the segment can be read. -/
import Derived.Test.YtgeofijddhflaaaGreatDoorQDiskP
import Derived.Test.YtgeofijddhflaaaGreatDoorQCalcFacts
import Derived.Test.YtgeofijddhflaaaGreatDoorQKeepRPieces
import Derived.Test.YtgeofijddhflaaaGreatDoorQSealL
import Derived.Test.YtgeofijddhflaaaGreatDoorQHeld
import Derived.Laws.Concat
import Derived.Lib.ItoaLen
import Derived.Deep.QuietTactic
import Derived.BigQuiet
set_option linter.unusedVariables false
namespace Go.Proofs.YtgeofijddhflaaaGreatDoor
open Oct
structure EntP where
 ix : Int
 tm : Int
 kd : Int
 b : List UInt8
structure SegP where
 k : Int
 first : Int
 term : Int
 l : List EntP
 ends : List Int
def numsS (l : List Int) : List UInt8 := (l.map fun n => enc (fold1 n)).flatten
def jHead (first term : Int) : List UInt8 := closeS (encI first ++ numsS [term])
def jPiece (e : EntP) : List UInt8 := closeS (numsS [e.tm, e.kd] ++ encT e.b)
def jMeta (term vote : Int) : List UInt8 := closeS (numsS [term, vote])
def SegP.long (s : SegP) : Int := s.ends.getLastD 0
def SegP.last (s : SegP) : Int × Int := match s.l.getLast? with
 | none => (s.first - 1, s.term)
 | some e => (e.ix, e.tm)
def SegP.aheadN (s : SegP) (ix : Int) : Nat := min (ix - s.first).toNat s.l.length
def SegP.ahead (s : SegP) (ix : Int) : SegP := { s with l := s.l.take (s.aheadN ix), ends := s.ends.take (s.aheadN ix + 1) }
def SegP.goesOn (s t : SegP) : Bool := decide (s.first - 1 = t.last.1) && decide (s.term = t.last.2)
def jName (k : Int) : Nm := 106 :: Lib.itoa k
def metaN : Nm := [109, 101, 116, 97]
def metaNew : Nm := [109, 101, 116, 97, 46, 110, 101, 119]
def jNum : Nm → Int
 | [] => 0
 | c :: r => if r.length < 1 ∨ 9 < r.length ∨ c ≠ 106 then 0 else if (parseS r).2.2 ≠ 0 ∨ (parseS r).2.1 ≠ (r.length : Int) then 0 else (parseS r).1
def takeN : Nat → List UInt8 → List Int × Option (List UInt8)
 | 0, b => ([], some b)
 | n + 1, b => if (takeU maxU b).2.2 ≠ 0 ∨ unfold1 (takeU maxU b).1 < 0 then ([], none) else
  (unfold1 (takeU maxU b).1 :: (takeN n (b.drop (takeU maxU b).2.1)).1, (takeN n (b.drop (takeU maxU b).2.1)).2)
def maxInt : Int := 9223372036854775807
def takeHd (p : List UInt8) : Option (Int × Int) :=
 if (takeU maxI p).2.2 ≠ 0 ∨ (takeU maxI p).1 < 1 ∨ ((takeU maxI p).1 : Int) = maxInt then none else
 match takeN 1 (p.drop (takeU maxI p).2.1) with
 | ([t], some []) => some ((takeU maxI p).1, t)
 | _ => none
def takeEn (p : List UInt8) (at_ : Int) : Option EntP :=
 match takeN 2 p with
 | ([t, k], some r) => if (takeT r).2.2 ≠ 0 ∨ (takeT r).2.1 ≠ r.length ∨ maxInt - 1 ≤ at_ then none else some ⟨at_ + 1, t, k, (takeT r).1⟩
 | _ => none
def readRows : List (List UInt8) → Int → SegP → Option SegP
 | [], _, s => some s
 | p :: r, a, s => match takeEn p s.last.1 with
  | none => none
  | some e => readRows r (a + (closeS p).length) { s with l := s.l ++ [e], ends := s.ends ++ [a + (closeS p).length] }
def readSeg (k : Int) (b : List UInt8) : Option (SegP × Bool) :=
 match (rowsS b).1 with
 | [] => some (⟨k, 0, 0, [], []⟩, decide ((rowsS b).2.2 ≠ 0))
 | p :: r => match takeHd p with
  | none => none
  | some (f, t) => (readRows r (closeS p).length ⟨k, f, t, [], [((closeS p).length : Int)]⟩).map fun s => (s, decide ((rowsS b).2.2 ≠ 0))
def listFiles : List (Nm × FD) → Option (List (SegP × Bool))
 | [] => some []
 | q :: r => if jNum q.1 = 0 then listFiles r else match readSeg (jNum q.1) q.2.b with
  | none => none
  | some s => (listFiles r).map (s :: ·)
def listOk : List (SegP × Bool) → Bool
 | a :: b :: r => decide (a.1.k = b.1.k - 1) && !a.2 && !a.1.ends.isEmpty && listOk (b :: r)
 | _ => true
def listJ (d : DkD) : Option (List (SegP × Bool)) := match listFiles d.fs with
 | none => none
 | some l => if listOk (l.mergeSort fun x y => decide (x.1.k ≤ y.1.k)) = true then some (l.mergeSort fun x y => decide (x.1.k ≤ y.1.k)) else none
def readMetaS (d : DkD) : Option (Int × Int) := match d.read metaN with
 | (b, e) => if e ≠ 0 then some (0, 0) else if (openS b).2.2 ≠ 0 ∨ (openS b).2.1 ≠ b.length then none else
  match takeN 2 (openS b).1 with
  | ([t, v], some []) => some (t, v)
  | _ => none
inductive JAct
 | rm (n : Nm)
 | cut (n : Nm) (k : Int)
 | sync (n : Nm)
 | app (n : Nm) (p : List UInt8)
 | ren
def JAct.run (d : DkD) : JAct → Int × DkD
 | .rm n => d.remove n
 | .cut n k => d.cutF n k
 | .sync n => d.sync n
 | .app n p => d.append n [p]
 | .ren => d.rename metaNew metaN
def runJ : List JAct → DkD → Int × DkD
 | [], d => (0, d)
 | a :: r, d => if (a.run d).1 = 0 then runJ r (a.run d).2 else a.run d
structure JnP where
 term : Int
 vote : Int
 segs : List SegP
 bad : Int
def lastRun : List SegP → List SegP → List SegP
 | acc, [] => acc
 | acc, s :: r => lastRun (match acc.getLast? with | none => [s] | some t => if s.goesOn t = true then acc ++ [s] else [s]) r
def openSegs (l : List (SegP × Bool)) (m : Int × Int) (d : DkD) : Int × Option JnP × DkD :=
 let segs := lastRun [] (l.map (·.1))
 let acts := ((l.take (l.length - segs.length)).map fun f => JAct.rm (jName f.1.k)) ++ (match l.getLast? with
  | none => []
  | some f => (if f.2 = true then [.cut (jName f.1.k) f.1.long] else []) ++ [.sync (jName f.1.k)])
 let r := runJ acts d
 (r.1, if r.1 = 0 then some ⟨m.1, m.2, segs, 0⟩ else none, r.2)
def openRest (d : DkD) : Int × Option JnP × DkD := match readMetaS d, listJ d with
 | some m, some l => (match l.getLast? with
  | none => openSegs l m d
  | some f => if f.1.ends.isEmpty = true then (if (d.remove (jName f.1.k)).1 = 0 then openSegs l.dropLast m (d.remove (jName f.1.k)).2 else ((d.remove (jName f.1.k)).1, none, (d.remove (jName f.1.k)).2)) else openSegs l m d)
 | _, _ => (53, none, d)
def openJ (d : DkD) : Int × Option JnP × DkD :=
 if d.pw.off = true then (50, none, d) else if (d.fs.any fun q => q.1 == metaNew) = true then
  (if (d.remove metaNew).1 = 0 then openRest (d.remove metaNew).2 else ((d.remove metaNew).1, none, (d.remove metaNew).2)) else openRest d
def setMetaJ (j : JnP) (d : DkD) (term vote : Int) : Int × JnP × DkD :=
 if j.bad ≠ 0 then (j.bad, j, d) else if term < 0 ∨ vote < 0 then (1, j, d) else
 let p := jMeta term vote
 if d.free + (d.read metaNew).1.length < p.length then (52, j, d) else
 let r := runJ ((if (d.read metaNew).2 = 0 then [.rm metaNew] else []) ++ [.app metaNew p, .sync metaNew, .ren]) d
 (r.1, if r.1 = 0 then ⟨term, vote, j.segs, 0⟩ else { j with bad := r.1 }, r.2)
def JnP.base (j : JnP) : Int × Int := match j.segs with
 | [] => (0, 0)
 | s :: _ => (s.first - 1, s.term)
def JnP.last (j : JnP) : Int × Int := match j.segs.getLast? with
 | none => (0, 0)
 | some s => s.last
def JnP.ents (j : JnP) : List EntP := (j.segs.map SegP.l).flatten
def mayRow (base : Int) : List EntP → Int → Option Int → Bool
 | [], _, _ => true
 | e :: r, last, prev => !(decide (e.ix ≤ base) || decide (last < e.ix - 1) || decide (e.ix = maxInt) || (match prev with | none => false | some p => decide (e.ix - 1 ≠ p)) || decide (e.tm < 0) || decide (e.kd < 0)) && mayRow base r e.ix (some e.ix)
def mayJ (j : JnP) (l : List EntP) : Int := if mayRow j.base.1 l j.last.1 none = false then 1 else if (l.any fun e => decide (65535 < e.b.length)) = true then 2 else 0
def keepN (segs : List SegP) (ix : Int) : Nat → Nat
 | 0 => 0
 | 1 => 1
 | n + 2 => match segs[n + 1]? with
  | some s => if ix ≤ s.first then keepN segs ix (n + 1) else n + 2
  | none => n + 2
def addEnts : SegP → List EntP → SegP
 | s, [] => s
 | s, e :: r => addEnts { s with l := s.l ++ [e], ends := s.ends ++ [s.long + (jPiece e).length] } r
def saveJ (j : JnP) (d : DkD) (l : List EntP) : Int × JnP × DkD :=
 if j.bad ≠ 0 then (j.bad, j, d) else if mayJ j l ≠ 0 then (mayJ j l, j, d) else match l with
 | [] => (0, j, d)
 | e0 :: _ =>
  let n := keepN j.segs e0.ix j.segs.length
  let gone := (j.segs.drop n).reverse
  let freed1 := (gone.map SegP.long).foldl (· + ·) 0
  let do1 := gone.map fun s => JAct.rm (jName s.k)
  let kept := j.segs.take n
  let cut := kept.getLast?.map fun s => (s, s.ahead e0.ix)
  let freed := freed1 + (match cut with | some (s, c) => if c.long < s.long then s.long - c.long else 0 | none => 0)
  let do2 := match cut with | some (s, c) => (if c.long < s.long then [JAct.cut (jName s.k) c.long] else []) | none => []
  let kept2 := match cut with | some (_, c) => kept.dropLast ++ [c] | none => kept
  let new := match cut with | some (_, c) => decide (600 ≤ c.long) | none => true
  let fk := match cut with | some (s, _) => s.k + 1 | none => 1
  let ft := match cut with | some (_, c) => c.last.2 | none => 0
  let hd := jHead e0.ix ft
  let s0 : SegP := if new = true then ⟨fk, e0.ix, ft, [], [(hd.length : Int)]⟩ else (match cut with | some (_, c) => c | none => ⟨fk, e0.ix, ft, [], []⟩)
  let b := (if new = true then hd else []) ++ (l.map jPiece).flatten
  let s1 := addEnts s0 l
  let segs := (if new = true then kept2 else kept2.dropLast) ++ [s1]
  if 999999999 < s1.k then (1, j, d) else if d.free + freed < (b.length : Int) then (52, j, d) else
  let r := runJ (do1 ++ do2 ++ [.app (jName s1.k) b, .sync (jName s1.k)]) d
  (r.1, if r.1 = 0 then { j with segs := segs } else { j with bad := r.1 }, r.2)
def termAt (j : JnP) (ix : Int) : Option Int := if j.base.1 = ix then some j.base.2 else
 j.segs.findSome? fun s => if 0 ≤ ix - s.first ∧ ix - s.first < (s.l.length : Int) then (s.l[(ix - s.first).toNat]?).map EntP.tm else none
def fromN (segs : List SegP) (ix : Int) : Nat → Nat → Nat
 | 0, f => f
 | fuel + 1, f => match segs[f + 1]? with
  | some s => if s.first ≤ ix + 1 then fromN segs ix fuel (f + 1) else f
  | none => f
def compactJ (j : JnP) (d : DkD) (ix term : Int) : Int × JnP × DkD :=
 if j.bad ≠ 0 then (j.bad, j, d) else if ix < j.base.1 ∨ maxInt - 2 < ix ∨ term < 0 ∨ (ix = j.base.1 ∧ (termAt j ix).getD 0 ≠ term) then (1, j, d) else
 let new := decide (j.last.1 < ix) || (match termAt j ix with | some t => decide (t ≠ term) | none => false)
 let hd := jHead (ix + 1) term
 let s : SegP := ⟨match j.segs.getLast? with | some x => x.k + 1 | none => 1, ix + 1, term, [], [(hd.length : Int)]⟩
 if new = true ∧ 999999999 < s.k then (1, j, d) else if new = true ∧ d.free < (hd.length : Int) then (52, j, d) else
 let segs := if new = true then j.segs ++ [s] else j.segs
 let from_ := fromN segs ix segs.length (if new = true then j.segs.length else 0)
 let r := runJ ((if new = true then [.app (jName s.k) hd, .sync (jName s.k)] else []) ++ (segs.take from_).map fun x => JAct.rm (jName x.k)) d
 (r.1, if r.1 = 0 then { j with segs := segs.drop from_ } else { j with bad := r.1 }, r.2)
end Go.Proofs.YtgeofijddhflaaaGreatDoor
set_option linter.unusedVariables false
namespace Go.Proofs.YtgeofijddhflaaaGreatDoor
open Oct
structure JDk (L : Nat) (d : DkD) : Prop where
 sz : sizes d.fs ≤ (L : Int)
 len : d.fs.length ≤ L
 nm : ∀ q ∈ d.fs, q.1.length ≤ 1000
theorem jsizes_mem {q : Nm × FD} : ∀ {l : List (Nm × FD)}, q ∈ l → (q.2.b.length : Int) ≤ sizes l
 | x :: r, h => by
  have hn := sizes_nonneg r
  unfold sizes
  rcases List.mem_cons.1 h with rfl | h
  ·omega
  ·have := jsizes_mem h
   omega
theorem jsizes_filter (f : Nm × FD → Bool) : ∀ l : List (Nm × FD), sizes (l.filter f) ≤ sizes l
 | [] => Int.le_refl _
 | x :: r => by
  have := jsizes_filter f r
  by_cases h : f x = true
  ·rw [List.filter_cons_of_pos h]
   simp only [sizes]
   omega
  ·rw [List.filter_cons_of_neg h]
   simp only [sizes]
   omega
theorem jsizes_del (n : Nm) (l : List (Nm × FD)) : sizes (asDel n l) ≤ sizes l := jsizes_filter _ l
theorem jlen_del {α : Type} (n : Nm) (l : List (Nm × α)) : (asDel n l).length ≤ l.length := List.length_filter_le _ _
theorem jsizes_ins (x : Nm × FD) : ∀ l : List (Nm × FD), sizes (asIns x l) = x.2.b.length + sizes l
 | [] => by simp [asIns, sizes]
 | y :: r => by
  have := jsizes_ins x r
  unfold asIns
  split
  ·simp [sizes]
  ·simp only [sizes]
   omega
theorem jsizes_put (n : Nm) (f : FD) (l : List (Nm × FD)) : sizes (asPut n f l) = f.b.length + sizes (asDel n l) := jsizes_ins _ _
theorem jlen_put {α : Type} (n : Nm) (f : α) (l : List (Nm × α)) : (asPut n f l).length ≤ l.length + 1 := by
 unfold asPut
 rw [asIns_length]
 have := jlen_del n l
 omega
theorem jlen_put_old {α : Type} {n : Nm} {f f' : α} {l : List (Nm × α)} (h : asGet n l = some f) : (asPut n f' l).length ≤ l.length := by
 unfold asPut
 rw [asIns_length]
 have hm := asGet_some h
 have : (asDel n l).length < l.length := by
  refine Nat.lt_of_le_of_ne (jlen_del n l) fun e => ?_
  have h1 := List.filter_eq_self.1 (List.Sublist.eq_of_length (List.filter_sublist (p := fun p : Nm × α => !(p.1 == n)) (l := l)) e) _ hm
  simp at h1
 omega
theorem jsizes_get {n : Nm} {f : FD} : ∀ {l : List (Nm × FD)}, asGet n l = some f → (f.b.length : Int) + sizes (asDel n l) ≤ sizes l
 | [], h => by cases h
 | x :: r, h => by
  unfold asGet at h
  by_cases hx : (x.1 == n) = true
  ·rw [List.find?_cons_of_pos (p := fun p : Nm × FD => p.1 == n) hx] at h
   simp at h
   subst h
   have h1 := jsizes_del n r
   unfold asDel at h1 ⊢
   rw [List.filter_cons_of_neg (by simp [hx])]
   simp only [sizes]
   omega
  ·rw [List.find?_cons_of_neg (p := fun p : Nm × FD => p.1 == n) hx] at h
   have := jsizes_get (l := r) h
   unfold asDel at this ⊢
   rw [List.filter_cons_of_pos (by simpa using hx)]
   simp only [sizes]
   omega
def JAct.cost : JAct → Nat
 | .app _ p => p.length + 1
 | _ => 0
def costs (l : List JAct) : Nat := (l.map JAct.cost).sum
section
variable {L : Nat} {d : DkD}
theorem JDk.mono {L' : Nat} (h : JDk L d) (hN : L ≤ L') : JDk L' d := ⟨by have := h.sz; omega, Nat.le_trans h.len hN, h.nm⟩
theorem JDk.pw (h : JDk L d) (p : PWD) : JDk L { d with pw := p } := ⟨h.sz, h.len, h.nm⟩
theorem JDk.del (h : JDk L d) (n : Nm) : JDk L { d with fs := asDel n d.fs } :=
 ⟨Int.le_trans (jsizes_del n _) h.sz, Nat.le_trans (jlen_del n _) h.len, fun q hq => h.nm q (asDel_mem.1 hq).1⟩
theorem JDk.put (h : JDk L d) (n : Nm) (f : FD) (hn : n.length ≤ 1000) {M : Nat} (hf : (f.b.length : Int) + sizes (asDel n d.fs) ≤ (M : Int)) (hM : (asPut n f d.fs).length ≤ M) : JDk M { d with fs := asPut n f d.fs } :=
 ⟨by rw [jsizes_put]; exact hf, hM, fun q hq => by
  rcases asPut_mem.1 hq with rfl | hq
  ·exact hn
  ·exact h.nm q hq.1⟩
theorem JDk.whole (h : JDk L d) {fs : List (Nm × FD)} (hf : JDk L { d with fs := fs }) : JDk L (d.whole fs).2 := by
 have h1 := h.pw d.pw.cut.2.2
 have h2 := hf.pw d.pw.cut.2.2
 unfold DkD.whole
 by_cases hc : d.pw.cut.1 = false ∨ d.pw.cut.2.1 % 2 ≠ 0
 ·simp only [if_pos hc]
  exact h2
 ·simp only [if_neg hc]
  exact h1
theorem jget_old (n : Nm) (l : List (Nm × FD)) : ((((asGet n l).getD ⟨[], 0⟩).b.length : Nat) : Int) + sizes (asDel n l) ≤ sizes l := by
 cases e : asGet n l with
 | none =>
  have := jsizes_del n l
  simp
  omega
 | some f => simpa using jsizes_get e
theorem jget_nm (h : JDk L d) {n : Nm} {f : FD} (e : asGet n d.fs = some f) : n.length ≤ 1000 := h.nm (n, f) (asGet_some e)
theorem JDk.run (h : JDk L d) (a : JAct) : JDk (L + a.cost) (a.run d).2 := by
 cases a with
 | rm n =>
  show JDk L (d.remove n).2
  unfold DkD.remove
  split
  ·exact h
  ·split
   ·exact h
   ·exact h.whole (h.del n)
 | cut n k =>
  show JDk L (d.cutF n k).2
  unfold DkD.cutF
  split
  ·exact h
  ·split
   ·exact h
   ·rename_i f hf
    split
    ·exact h
    ·refine h.whole (h.put n _ (jget_nm h hf) ?_ (Nat.le_trans (jlen_put_old hf) h.len))
     have h1 := jsizes_get hf
     have h2 := h.sz
     simp only [List.length_take]
     omega
 | sync n =>
  show JDk L (d.sync n).2
  unfold DkD.sync
  split
  ·exact h
  ·split
   ·exact h
   ·rename_i f hf
    split
    ·exact h.pw _
    ·refine (h.put n _ (jget_nm h hf) ?_ (Nat.le_trans (jlen_put_old hf) h.len)).pw _
     have h1 := jsizes_get hf
     have h2 := h.sz
     simp only
     omega
 | app n p =>
  show JDk (L + (p.length + 1)) (d.append n [p]).2
  have hm : JDk (L + (p.length + 1)) d := h.mono (by omega)
  unfold DkD.append
  split
  ·exact hm
  ·split
   ·exact hm
   ·rename_i hnm
    split
    ·exact hm
    ·have hsz := h.sz
     have hlen := h.len
     have hold := jget_old n d.fs
     have hup : (upTo d.pw.cut.2.1 [p].flatten).length ≤ p.length := by
      unfold upTo
      rw [List.length_take]
      simp
      omega
     refine (h.put n _ (by omega) ?_ (by have := jlen_put n (⟨((asGet n d.fs).getD ⟨[], 0⟩).b ++ (if d.pw.cut.1 = true then upTo d.pw.cut.2.1 [p].flatten else [p].flatten), ((asGet n d.fs).getD ⟨[], 0⟩).safe⟩ : FD) d.fs; omega)).pw _
     have hfl : [p].flatten = p := by simp
     simp only [List.length_append]
     split
     ·push_cast; omega
     ·rw [hfl]; push_cast; omega
 | ren =>
  show JDk L (d.rename metaNew metaN).2
  unfold DkD.rename
  split
  ·exact h
  ·split
   ·exact h
   ·rename_i f hf
    split
    ·exact h
    ·have hd := h.del metaNew
     refine h.whole (hd.put metaN f (by decide) ?_ ?_)
     ·have h1 := jsizes_get hf
      have h2 := jsizes_del metaN (asDel metaNew d.fs)
      have := h.sz
      simp only
      omega
     ·have h1 := jlen_put metaN f (asDel metaNew d.fs)
      have h2 := jlen_put_old (f' := f) hf
      have h3 := h.len
      unfold asPut at h2
      rw [asIns_length] at h2
      simp only
      omega
theorem JDk.runs : ∀ (l : List JAct) {L : Nat} {d : DkD}, JDk L d → JDk (L + costs l) (runJ l d).2
 | [], L, d, h => h
 | a :: r, L, d, h => by
  have e : L + costs (a :: r) = L + a.cost + costs r := by unfold costs; simp; omega
  unfold runJ
  rw [e]
  split
  ·exact JDk.runs r (h.run a)
  ·exact (h.run a).mono (by omega)
end
end Go.Proofs.YtgeofijddhflaaaGreatDoor
set_option linter.unusedVariables false
namespace Go.Proofs.YtgeofijddhflaaaGreatDoor
open Go.RowKit Oct
def RdF (w : World) (F : Nat → Prop) (A : Option Addr) (xs : List Value) : Prop := 0 < xs.length → ∃ b o, A = some ⟨b, o, none⟩ ∧ F b ∧ b < w.heap.size ∧ ∀ j u, xs[j]? = some u → w.cell? ⟨b, o + j, none⟩ = some u
theorem add_lit (b o j : Nat) : (⟨b, o, none⟩ : Addr).add j = ⟨b, o + j, none⟩ := by
 unfold Addr.add
 by_cases h : j = 0
 ·subst h; rfl
 ·simp [h]
section
variable {w w' : World} {F F' : Nat → Prop} {A : Option Addr} {xs : List Value}
theorem RdF.rd (h : RdF w F A xs) : Rd w w.heap.size A xs := fun h0 => by
 obtain ⟨b, o, e, _, hlt, hc⟩ := h h0
 exact ⟨⟨b, o, none⟩, e, hlt, fun j u hu => by rw [add_lit]; exact hc j u hu⟩
theorem RdF.keep (h : RdF w F A xs) (hs : w.heap.size ≤ w'.heap.size) (hk : ∀ k, F k → w'.heap[k]? = w.heap[k]?) : RdF w' F A xs := fun h0 => by
 obtain ⟨b, o, e, hF, hlt, hc⟩ := h h0
 exact ⟨b, o, e, hF, by omega, fun j u hu => (World.cell?_of_block (w := w) (hk b hF)).trans (hc j u hu)⟩
theorem RdF.mono (h : RdF w F A xs) (hF : ∀ k, F k → F' k) : RdF w F' A xs := fun h0 => by
 obtain ⟨b, o, e, h1, hlt, hc⟩ := h h0
 exact ⟨b, o, e, hF b h1, hlt, hc⟩
theorem RdF.nil : RdF w F A [] := fun h => absurd h (by simp)
theorem RdF.take (h : RdF w F A xs) (k : Nat) : RdF w F A (xs.take k) := fun h0 => by
 rw [List.length_take] at h0
 obtain ⟨b, o, e, h1, hlt, hc⟩ := h (by omega)
 exact ⟨b, o, e, h1, hlt, fun j u hu => hc j u (by
  rw [List.getElem?_take] at hu
  split at hu
  ·exact hu
  ·cases hu)⟩
theorem RdF.of_own {base : Nat} {e : TypeId} {n c : Nat} (h : Own w base e (.slice A n c) xs) (hF : ∀ k, base ≤ k → k < w.heap.size → F k) : RdF w F A xs := fun h0 => by
 rcases Own.whole h with ⟨h1, h2⟩ | ⟨g, cap, cur, h1, h2, h3, h4, _⟩
 ·rw [h2] at h0
  simp at h0
 ·obtain ⟨A', c', hv, _, _, hr⟩ := Own.shape h
  injection h1 with e1 _ _
  injection hv with e2 _ _
  obtain ⟨ad, e3, hlt, hc⟩ := hr h0
  rw [← e2, e1] at e3
  injection e3 with e3
  subst e3
  exact ⟨g, 0, e1, hF g h2 h3, h3, fun j u hu => by rw [← add_lit]; exact hc j u hu⟩
theorem RdF.of_row {base : Nat} {e : TypeId} {size n m c : Nat} (h : w.ownsRow base e size (.slice A m c) n xs) (hF : ∀ k, base ≤ k → k < w.heap.size → F k) (hn : n * size = xs.length) : RdF w F A xs := fun h0 => by
 rcases h.2 with ⟨h1, h2⟩ | ⟨g, cap, cur, h1, h2, h3, h4, h5, h6, h7⟩
 ·subst h2
  omega
 ·have hk := h1
  injection h1 with e1 e2 e3
  have hlt := (Array.getElem?_eq_some_iff.1 h3).1
  exact ⟨g, 0, e1, hF g h2 hlt, hlt, fun j u hu => by
   have hj := (List.getElem?_eq_some_iff.1 hu).1
   have h8 := World.ownsRow.cellAt (hk ▸ h) (0 + j) (by omega)
   rw [h8, Nat.zero_add]
   exact hu⟩
end
def DatF (w : World) (F : Nat → Prop) (v : Value) (l : List UInt8) : Prop := ∃ A c, v = .slice A l.length c ∧ l.length ≤ c ∧ c ≤ 9223372036854775807 ∧ RdF w F A (cells l)
structure EntR where
 v : Value
 e : EntP
def erOne (q : EntR) : List Value := [.int .i64 q.e.ix, .int .i64 q.e.tm, .int .i64 q.e.kd, q.v]
def erCells (l : List EntR) : List Value := l.flatMap erOne
theorem erCells_len (l : List EntR) : (erCells l).length = 4 * l.length := by
 induction l with
 | nil => rfl
 | cons x r ih => unfold erCells at ih ⊢; rw [List.flatMap_cons, List.length_append, ih]; simp [erOne]; omega
theorem erCells_at (l : List EntR) {k : Nat} (hk : k < l.length) {j : Nat} (hj : j < 4) : (erCells l)[k * 4 + j]? = (erOne l[k])[j]? := by
 induction l generalizing k with
 | nil => simp at hk
 | cons x r ih =>
  unfold erCells at ih ⊢
  rw [List.flatMap_cons]
  cases k with
  | zero => rw [List.getElem?_append_left (by simp [erOne]; omega)]; simp
  | succ k =>
   rw [List.getElem?_append_right (by simp [erOne]; omega)]
   have : (k + 1) * 4 + j - (erOne x).length = k * 4 + j := by simp [erOne]; omega
   rw [this, ih (by simpa using hk)]
   rfl
theorem erCells_append (a b : List EntR) : erCells (a ++ b) = erCells a ++ erCells b := by unfold erCells; rw [List.flatMap_append]
theorem erCells_take (l : List EntR) (k : Nat) : (erCells l).take (k * 4) = erCells (l.take k) := by
 induction l generalizing k with
 | nil => simp [erCells]
 | cons x r ih =>
  cases k with
  | zero => simp [erCells]
  | succ k =>
   have := ih k
   unfold erCells at this ⊢
   rw [List.take_succ_cons, List.flatMap_cons, List.flatMap_cons, ← this, List.take_append]
   have h4 : (erOne x).length = 4 := rfl
   rw [h4, List.take_of_length_le (by rw [h4]; omega), show (k + 1) * 4 - 4 = k * 4 by omega]
structure SegB (s : SegP) : Prop where
 k : -9223372036854775808 ≤ s.k ∧ s.k ≤ 9223372036854775807
 first : 0 ≤ s.first ∧ s.first ≤ 9223372036854775806
 term : -9223372036854775808 ≤ s.term ∧ s.term ≤ 9223372036854775807
 ent : ∀ e ∈ s.l, (-9223372036854775808 ≤ e.ix ∧ e.ix ≤ 9223372036854775807) ∧ (-9223372036854775808 ≤ e.tm ∧ e.tm ≤ 9223372036854775807) ∧ (-9223372036854775808 ≤ e.kd ∧ e.kd ≤ 9223372036854775807)
 ends : ∀ n ∈ s.ends, 0 ≤ n ∧ n ≤ 4611686018427387904
structure SegRd (w : World) (F : Nat → Prop) (ad : Addr) (s : SegP) : Prop where
 at_ : ∃ Al cl rs Ae ce, RdF w F (some ad) [.int .i64 s.k, .int .i64 s.first, .int .i64 s.term, .slice Al s.l.length cl, .slice Ae s.ends.length ce] ∧ s.l.length ≤ cl ∧ cl ≤ maxLen ∧ s.ends.length ≤ ce ∧ ce ≤ maxLen ∧ RdF w F Al (erCells rs) ∧ rs.map EntR.e = s.l ∧ (∀ q ∈ rs, DatF w F q.v q.e.b) ∧ RdF w F Ae (s.ends.map (Value.int .i64))
 num : SegB s
section
variable {w w' : World} {F F' : Nat → Prop} {ad : Addr} {s : SegP}
theorem DatF.keep {v : Value} {l : List UInt8} (h : DatF w F v l) (hs : w.heap.size ≤ w'.heap.size) (hk : ∀ k, F k → w'.heap[k]? = w.heap[k]?) : DatF w' F v l := by
 obtain ⟨A, c, h1, h2, h3, h4⟩ := h
 exact ⟨A, c, h1, h2, h3, h4.keep hs hk⟩
theorem DatF.mono {v : Value} {l : List UInt8} (h : DatF w F v l) (hF : ∀ k, F k → F' k) : DatF w F' v l := by
 obtain ⟨A, c, h1, h2, h3, h4⟩ := h
 exact ⟨A, c, h1, h2, h3, h4.mono hF⟩
theorem SegRd.keep (h : SegRd w F ad s) (hs : w.heap.size ≤ w'.heap.size) (hk : ∀ k, F k → w'.heap[k]? = w.heap[k]?) : SegRd w' F ad s := by
 obtain ⟨⟨Al, cl, rs, Ae, ce, h1, h2, h3, h4, h5, h6, h7, h8, h9⟩, hn⟩ := h
 exact ⟨⟨Al, cl, rs, Ae, ce, h1.keep hs hk, h2, h3, h4, h5, h6.keep hs hk, h7, fun q hq => (h8 q hq).keep hs hk, h9.keep hs hk⟩, hn⟩
theorem SegRd.mono (h : SegRd w F ad s) (hF : ∀ k, F k → F' k) : SegRd w F' ad s := by
 obtain ⟨⟨Al, cl, rs, Ae, ce, h1, h2, h3, h4, h5, h6, h7, h8, h9⟩, hn⟩ := h
 exact ⟨⟨Al, cl, rs, Ae, ce, h1.mono hF, h2, h3, h4, h5, h6.mono hF, h7, fun q hq => (h8 q hq).mono hF, h9.mono hF⟩, hn⟩
end
end Go.Proofs.YtgeofijddhflaaaGreatDoor
set_option linter.unusedVariables false
set_option linter.unusedSimpArgs false
namespace Go.Proofs.YtgeofijddhflaaaGreatDoor
open Go.RowKit Oct
set_option maxHeartbeats 1000000 in
theorem jindex_any (A : Option Addr) (ns : List Nm) (c : Nat) (x : Nm) (w : World) (hr : Rd w w.heap.size A (ns.map fun n => .string (str n))) (hl : ns.length ≤ 4611686018427387904) :
  Calls Tryz.prog 93 #[.slice A ns.length c, .string (str x)] w fun e w' => (∃ r : Int, e = .returned (.int .i64 r) ∧ decide (0 ≤ r) = ns.any fun n => n == x) ∧ w = w' := by
 have HR := Lib.hid hr
 clear hr
 go_enter Tryz.func93, Tryz.ntmps93
 go_wp2_with fail
 go_loopw [8, 5] (fun i _ wr => ∃ k : Nat, k ≤ ns.length ∧ i = .int .i64 k ∧ Hid ((ns.take k).any (fun n => n == x) = false) ∧ wr = w) (fun i _ _ => ns.length - (intOf i).toNat)
 case atStart => exact ⟨0, by omega, rfl, Lib.hid rfl, rfl⟩
 case round =>
  obtain ⟨k, hk, rfl, HA, rfl⟩ := hrel
  by_cases hlt : k < ns.length
  ·obtain ⟨ad, rfl, hab, hca⟩ := HR.out.at_ (k := k) (by rw [List.length_map]; exact hlt)
   rw [List.getElem_map] at hca
   have htk : ns.take (k + 1) = ns.take k ++ [ns[k]] := by
    rw [List.take_add_one, List.getElem?_eq_getElem hlt]
    rfl
   obtain ⟨y, hy⟩ : ∃ y, y = ns[k] := ⟨_, rfl⟩
   rw [← hy] at hca htk
   have HTK := Lib.hid htk
   have HSP := Lib.hid (show ns = ns.take (k + 1) ++ ns.drop (k + 1) from (List.take_append_drop _ _).symm)
   clear htk hy
   by_cases e : x = y
   ·have HE := Lib.hid e
    have hs : ((str x).toList == (str y).toList) = true := by rw [e]; exact beq_self_eq_true _
    clear e
    go_wp2_with fail
    go_ret
    refine ⟨⟨_, rfl, ?_⟩, rfl⟩
    rw [HSP.out, HTK.out, HE.out]
    simp
   ·have HE := Lib.hid e
    have hn : (str x).toList ≠ (str y).toList := fun h => e (by simpa [str, ByteArray.toList_eq] using h)
    have hs : ((str x).toList == (str y).toList) = false := beq_eq_false_iff_ne.2 hn
    clear hn
    clear e
    go_wp2_with fail
    go_roundw
    case rel => exact ⟨k + 1, by omega, by go_num, Lib.hid (by rw [HTK.out, List.any_append, HA.out]; simpa using fun h => HE.out h.symm), by first | rfl | trivial⟩
    case measure => simp [intOf]; omega
  ·obtain rfl : k = ns.length := by omega
   go_wp2_with fail
   go_ret
   have h1 := HA.out
   rw [List.take_length] at h1
   refine ⟨⟨_, rfl, ?_⟩, rfl⟩
   rw [h1]
   decide
set_option maxHeartbeats 1000000 in
theorem jcontains_any (A : Option Addr) (ns : List Nm) (c : Nat) (x : Nm) (w : World) (hr : Rd w w.heap.size A (ns.map fun n => .string (str n))) (hl : ns.length ≤ 4611686018427387904) :
  Calls Tryz.prog 46 #[.slice A ns.length c, .string (str x)] w fun e w' => e = .returned (.bool (ns.any fun n => n == x)) ∧ w = w' := by
 have HI := Lib.hid (jindex_any A ns c x w hr hl)
 clear hr
 go_enter Tryz.func46, Tryz.ntmps46
 go_wp2_with fail
 refine HI.out.mono ?_
 rintro e w' ⟨⟨r, rfl, hr⟩, rfl⟩
 have HRR := Lib.hid hr
 clear hr HI
 go_wp2_with fail
 go_ret
 refine ⟨?_, rfl⟩
 rw [← HRR.out]
 rfl
end Go.Proofs.YtgeofijddhflaaaGreatDoor
set_option linter.unusedVariables false
set_option linter.unusedSimpArgs false
namespace Go.Proofs.YtgeofijddhflaaaGreatDoor
open Go.RowKit Oct
set_option maxRecDepth 100000 in
set_option maxHeartbeats 1000000 in
theorem jlast_none (b o : Nat) (f t : Int) (Al : Option Addr) (c : Nat) (hf : 0 ≤ f ∧ f ≤ 9223372036854775807) (w : World) (c1 : w.cell? ⟨b, o + 1, none⟩ = some (.int .i64 f)) (c2 : w.cell? ⟨b, o + 2, none⟩ = some (.int .i64 t)) (c3 : w.cell? ⟨b, o + 3, none⟩ = some (.slice Al 0 c)) :
  Calls Tryz.prog 62 #[.pointer (some ⟨b, o, none⟩)] w fun e w' => e = .returned (.tuple #[.int .i64 (f - 1), .int .i64 t]) ∧ Below w.heap.size w w' := by
 have hw : IntKind.i64.wrap (f - 1) = f - 1 := IntWalk.i64_in _ (by omega)
 go_enter Tryz.func62, Tryz.ntmps62
 go_wp2_with fail
 go_quiet (fail)
 go_wp2_with fail
 go_ret2
 exact ⟨rfl, below_drewN (Below.refl _ _) _⟩
set_option maxRecDepth 100000 in
set_option maxHeartbeats 1000000 in
theorem jlast_some (b o n eb eo c : Nat) (ix tm kd : Int) (Av : Option Addr) (lv cv : Nat) (hn : n ≤ 4611686018427387904) (w : World) (c3 : w.cell? ⟨b, o + 3, none⟩ = some (.slice (some ⟨eb, eo, none⟩) (n + 1) c)) (e0 : w.cell? ⟨eb, eo + n * 4, none⟩ = some (.int .i64 ix)) (e1 : w.cell? ⟨eb, eo + n * 4 + 1, none⟩ = some (.int .i64 tm)) (e2 : w.cell? ⟨eb, eo + n * 4 + 2, none⟩ = some (.int .i64 kd)) (e3 : w.cell? ⟨eb, eo + n * 4 + 3, none⟩ = some (.slice Av lv cv)) (hlb : b < w.heap.size) (hle : eb < w.heap.size) :
  Calls Tryz.prog 62 #[.pointer (some ⟨b, o, none⟩)] w fun e w' => e = .returned (.tuple #[.int .i64 ix, .int .i64 tm]) ∧ Below w.heap.size w w' := by
 have hw : IntKind.i64.wrap (((n + 1 : Nat) : Int) - 1) = (n : Int) := by rw [IntWalk.i64_in _ (by omega)]; omega
 have hw2 : ((n + 1 : Nat) : Int) - 1 = (n : Int) := by omega
 have hn0 : (((n + 1 : Nat) : Int) == 0) = false := by simp; omega
 have hlt : (n : Int) < ((n + 1 : Nat) : Int) := by omega
 have hn1 : (0 : Int) ≤ (n : Int) := by omega
 have hw3 : IntKind.i64.wrap (n : Int) = (n : Int) := IntWalk.i64_in _ (by omega)
 have hb3 : (0 : Int) ≤ (n : Int) ∧ (n : Int) < (n : Int) + 1 := by omega
 go_enter Tryz.func62, Tryz.ntmps62
 go_wp2_with fail
 have hSnew : ∀ X : Obj, ((w.alloc X).drew).cell? ⟨b, o + 3, none⟩ = some (.slice (some ⟨eb, eo, none⟩) (n + 1) c) ∧ ((w.alloc X).drew).cell? ⟨eb, eo + n * 4, none⟩ = some (.int .i64 ix) ∧ ((w.alloc X).drew).cell? ⟨eb, eo + n * 4 + 1, none⟩ = some (.int .i64 tm) ∧ ((w.alloc X).drew).cell? ⟨eb, eo + n * 4 + 2, none⟩ = some (.int .i64 kd) ∧ ((w.alloc X).drew).cell? ⟨eb, eo + n * 4 + 3, none⟩ = some (.slice Av lv cv) ∧ True := fun X => by
  have hB : Below w.heap.size w (w.alloc X) := (Below.refl _ w).alloc (Nat.le_refl _) _
  exact ⟨(hB.cell (p := ⟨b, o + 3, none⟩) hlb).trans c3, (hB.cell (p := ⟨eb, eo + n * 4, none⟩) hle).trans e0, (hB.cell (p := ⟨eb, eo + n * 4 + 1, none⟩) hle).trans e1, (hB.cell (p := ⟨eb, eo + n * 4 + 2, none⟩) hle).trans e2, (hB.cell (p := ⟨eb, eo + n * 4 + 3, none⟩) hle).trans e3, trivial⟩
 have HSN := Lib.hid hSnew
 clear hSnew
 refine wp_region_heldT 13 rfl (S := fun W => W.cell? ⟨b, o + 3, none⟩ = some (.slice (some ⟨eb, eo, none⟩) (n + 1) c) ∧ W.cell? ⟨eb, eo + n * 4, none⟩ = some (.int .i64 ix) ∧ W.cell? ⟨eb, eo + n * 4 + 1, none⟩ = some (.int .i64 tm) ∧ W.cell? ⟨eb, eo + n * 4 + 2, none⟩ = some (.int .i64 kd) ∧ W.cell? ⟨eb, eo + n * 4 + 3, none⟩ = some (.slice Av lv cv) ∧ True) ⟨c3, e0, e1, e2, e3, trivial⟩ (fun hHeld => ?_)
 refine heldT_take 0 (v := ?_) (by simp) (by kernel_rfl) (by kernel_rfl) (by kernel_rfl) (by kernel_rfl) (fun _ _ _ h => h) (Or.inl ⟨by rfl, ?_⟩) hHeld ?_
 case refine_2 => (intro w hSw; (try dsimp only at hSw); obtain ⟨s0, s1, s2, s3, s4, s5⟩ := hSw; simp only [List.getElem_cons_zero]; go_simp <;> with_reducible rfl)
 simp only [List.getElem_cons_zero, Act.put, List.setIfInBounds_toArray, List.set_cons_zero, List.set_cons_succ]
 refine heldT_take 1 (v := ?_) (by simp) (by kernel_rfl) (by kernel_rfl) (by kernel_rfl) (by kernel_rfl) (fun _ _ _ h => h) (Or.inl ⟨by rfl, ?_⟩) hHeld ?_
 case refine_2 => (intro w hSw; (try dsimp only at hSw); obtain ⟨s0, s1, s2, s3, s4, s5⟩ := hSw; simp only [List.getElem_cons_zero, List.getElem_cons_succ]; go_simp <;> with_reducible rfl)
 simp only [List.getElem_cons_zero, List.getElem_cons_succ, Act.put, List.setIfInBounds_toArray, List.set_cons_zero, List.set_cons_succ]
 refine heldT_take 2 (v := ?_) (by simp) (by kernel_rfl) (by kernel_rfl) (by kernel_rfl) (by kernel_rfl) (fun _ _ _ h => h) (Or.inl ⟨by rfl, ?_⟩) hHeld ?_
 case refine_2 => (intro w hSw; (try dsimp only at hSw); obtain ⟨s0, s1, s2, s3, s4, s5⟩ := hSw; simp only [List.getElem_cons_zero, List.getElem_cons_succ]; go_simp <;> with_reducible rfl)
 simp only [List.getElem_cons_zero, List.getElem_cons_succ, Act.put, List.setIfInBounds_toArray, List.set_cons_zero, List.set_cons_succ]
 refine heldT_take 3 (v := ?_) (by simp) (by kernel_rfl) (by kernel_rfl) (by kernel_rfl) (by kernel_rfl) (fun _ _ _ h => h) (Or.inl ⟨by rfl, ?_⟩) hHeld ?_
 case refine_2 => (intro w hSw; (try dsimp only at hSw); obtain ⟨s0, s1, s2, s3, s4, s5⟩ := hSw; simp only [List.getElem_cons_zero, List.getElem_cons_succ]; go_simp <;> with_reducible rfl)
 simp only [List.getElem_cons_zero, List.getElem_cons_succ, Act.put, List.setIfInBounds_toArray, List.set_cons_zero, List.set_cons_succ]
 refine heldT_take 4 (v := ?_) (by simp) (by kernel_rfl) (by kernel_rfl) (by kernel_rfl) (by kernel_rfl) (fun _ _ _ h => h) (Or.inl ⟨by rfl, ?_⟩) hHeld ?_
 case refine_2 => (intro w hSw; (try dsimp only at hSw); obtain ⟨s0, s1, s2, s3, s4, s5⟩ := hSw; simp only [List.getElem_cons_zero, List.getElem_cons_succ]; go_simp <;> with_reducible rfl)
 simp only [List.getElem_cons_zero, List.getElem_cons_succ, Act.put, List.setIfInBounds_toArray, List.set_cons_zero, List.set_cons_succ]
 refine heldT_take 5 (v := ?_) (by simp) (by kernel_rfl) (by kernel_rfl) (by kernel_rfl) (by kernel_rfl) (fun _ _ _ h => h) (Or.inl ⟨by rfl, ?_⟩) hHeld ?_
 case refine_2 => (intro w hSw; (try dsimp only at hSw); obtain ⟨s0, s1, s2, s3, s4, s5⟩ := hSw; simp only [List.getElem_cons_zero, List.getElem_cons_succ]; go_simp <;> with_reducible rfl)
 simp only [List.getElem_cons_zero, List.getElem_cons_succ, Act.put, List.setIfInBounds_toArray, List.set_cons_zero, List.set_cons_succ]
 refine heldT_take 6 (v := ?_) (by simp) (by kernel_rfl) (by kernel_rfl) (by kernel_rfl) (by kernel_rfl) (fun _ _ _ h => h) (Or.inl ⟨by rfl, ?_⟩) hHeld ?_
 case refine_2 => (intro w hSw; (try dsimp only at hSw); obtain ⟨s0, s1, s2, s3, s4, s5⟩ := hSw; simp only [List.getElem_cons_zero, List.getElem_cons_succ]; go_simp <;> with_reducible rfl)
 simp only [List.getElem_cons_zero, List.getElem_cons_succ, Act.put, List.setIfInBounds_toArray, List.set_cons_zero, List.set_cons_succ]
 refine heldT_take 7 (v := ?_) (by simp) (by kernel_rfl) (by kernel_rfl) (by kernel_rfl) (by kernel_rfl) (fun _ _ _ h => h) (Or.inl ⟨by rfl, ?_⟩) hHeld ?_
 case refine_2 => (intro w hSw; (try dsimp only at hSw); obtain ⟨s0, s1, s2, s3, s4, s5⟩ := hSw; simp only [List.getElem_cons_zero, List.getElem_cons_succ]; go_simp <;> with_reducible rfl)
 simp only [List.getElem_cons_zero, List.getElem_cons_succ, Act.put, List.setIfInBounds_toArray, List.set_cons_zero, List.set_cons_succ]
 refine heldT_take 8 (v := ?_) (by simp) (by kernel_rfl) (by kernel_rfl) (by kernel_rfl) (by kernel_rfl) (fun _ _ _ h => h) (Or.inl ⟨by rfl, ?_⟩) hHeld ?_
 case refine_2 => (intro w hSw; (try dsimp only at hSw); obtain ⟨s0, s1, s2, s3, s4, s5⟩ := hSw; simp only [List.getElem_cons_zero, List.getElem_cons_succ]; go_simp <;> with_reducible rfl)
 simp only [List.getElem_cons_zero, List.getElem_cons_succ, Act.put, List.setIfInBounds_toArray, List.set_cons_zero, List.set_cons_succ]
 refine heldT_take 9 (v := ?_) (by simp) (by kernel_rfl) (by kernel_rfl) (by kernel_rfl) (by kernel_rfl) (fun _ _ _ h => h) (Or.inl ⟨by rfl, ?_⟩) hHeld ?_
 case refine_2 => (intro w hSw; (try dsimp only at hSw); obtain ⟨s0, s1, s2, s3, s4, s5⟩ := hSw; simp only [List.getElem_cons_zero, List.getElem_cons_succ]; go_simp <;> with_reducible rfl)
 simp only [List.getElem_cons_zero, List.getElem_cons_succ, Act.put, List.setIfInBounds_toArray, List.set_cons_zero, List.set_cons_succ]
 refine heldT_take 10 (v := ?_) (by simp) (by kernel_rfl) (by kernel_rfl) (by kernel_rfl) (by kernel_rfl) (fun _ _ _ h => h) (Or.inl ⟨by rfl, ?_⟩) hHeld ?_
 case refine_2 => (intro w hSw; (try dsimp only at hSw); obtain ⟨s0, s1, s2, s3, s4, s5⟩ := hSw; simp only [List.getElem_cons_zero, List.getElem_cons_succ]; go_simp <;> with_reducible rfl)
 simp only [List.getElem_cons_zero, List.getElem_cons_succ, Act.put, List.setIfInBounds_toArray, List.set_cons_zero, List.set_cons_succ]
 refine heldT_take 11 (v := ?_) (by simp) (by kernel_rfl) (by kernel_rfl) (by kernel_rfl) (by kernel_rfl) (fun _ _ _ h => h) (Or.inl ⟨by rfl, ?_⟩) hHeld ?_
 case refine_2 => (intro w hSw; (try dsimp only at hSw); obtain ⟨s0, s1, s2, s3, s4, s5⟩ := hSw; simp only [List.getElem_cons_zero, List.getElem_cons_succ]; go_simp <;> with_reducible rfl)
 simp only [List.getElem_cons_zero, List.getElem_cons_succ, Act.put, List.setIfInBounds_toArray, List.set_cons_zero, List.set_cons_succ]
 refine heldT_sole 12 (by simp) (by kernel_rfl) (fun K hK => ?_)
 simp only [List.getElem_cons_zero, List.getElem_cons_succ]
 go_simp
 refine hK _ _ (HSN.out _) (fun hHeld => ?_)
 clear hK K
 try simp only [Act.put, List.setIfInBounds_toArray, List.set_cons_zero, List.set_cons_succ]
 refine heldT_last (t := 13) (by simp) (by kernel_rfl) (by kernel_rfl) (fun K hK => ?_)
 simp only [List.getElem_cons_zero, List.getElem_cons_succ]
 go_simp
 refine hK _ _ ?_
 clear hK K hHeld
 have hbN : Below w.heap.size w (w.alloc (.cells #[.int .i64 ix, .int .i64 tm, .int .i64 kd, .slice Av lv cv] 65)).drew := below_drewN ((Below.refl _ w).alloc (Nat.le_refl _) _) 1
 obtain ⟨wn, hwn⟩ : ∃ wn, wn = (w.alloc (.cells #[.int .i64 ix, .int .i64 tm, .int .i64 kd, .slice Av lv cv] 65)).drew := ⟨_, rfl⟩
 have n0 : wn.cell? ⟨w.heap.size, 0, none⟩ = some (.int .i64 ix) := by rw [hwn]; exact (Blk.new w 65 _).cell 0
 have n1 : wn.cell? ⟨w.heap.size, 1, none⟩ = some (.int .i64 tm) := by rw [hwn]; exact (Blk.new w 65 _).cell 1
 rw [← hwn] at hbN ⊢
 have HBN := Lib.hid hbN
 clear hwn hbN c3 e0 e1 e2 e3 HSN
 go_wp2_with fail
 go_quiet (fail)
 go_wp2_with fail
 go_ret2
 exact ⟨rfl, below_drewN HBN.out _⟩
set_option maxRecDepth 100000 in
set_option maxHeartbeats 1000000 in
theorem jlong_any (b o n ab ao c : Nat) (m : Int) (hn : n ≤ 4611686018427387904) (w : World) (c4 : w.cell? ⟨b, o + 4, none⟩ = some (.slice (some ⟨ab, ao, none⟩) (n + 1) c)) (e0 : w.cell? ⟨ab, ao + n, none⟩ = some (.int .i64 m)) :
  Calls Tryz.prog 56 #[.pointer (some ⟨b, o, none⟩)] w fun e w' => e = .returned (.int .i64 m) ∧ Below w.heap.size w w' := by
 have hw : IntKind.i64.wrap (((n + 1 : Nat) : Int) - 1) = (n : Int) := by rw [IntWalk.i64_in _ (by omega)]; omega
 have hw2 : ((n + 1 : Nat) : Int) - 1 = (n : Int) := by omega
 have hlt : (n : Int) < ((n + 1 : Nat) : Int) := by omega
 have hn1 : (0 : Int) ≤ (n : Int) := by omega
 go_enter Tryz.func56, Tryz.ntmps56
 go_wp2_with fail
 go_quiet (fail)
 go_wp2_with fail
 go_ret
 exact ⟨rfl, below_drewN (Below.refl _ _) _⟩
end Go.Proofs.YtgeofijddhflaaaGreatDoor
