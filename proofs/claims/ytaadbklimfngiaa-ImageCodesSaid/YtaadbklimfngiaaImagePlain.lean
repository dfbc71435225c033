/- An instance in bytes, in plain words. No condition. -/
import Derived.Test.YtaadbklimfngiaaJoin
set_option linter.unusedVariables false
namespace Go.Proofs.Ytaadbklimfngiaa
open Oct

structure PastD where
  n : Int
  z : List Int
structure TimD where
  d : Int
  n : Int
  s : Int
structure InstD where
  act : List Int
  nums : List Int
  past : List PastD
  tms : List TimD
  now : Int
/-- A page: bytes so far; something was too long. -/
structure Pg where
  b : List UInt8
  long : Bool
def Pg.put (p : Pg) (l : List UInt8) (e : Int) : Pg := if (p.long || decide (e ≠ 0) || decide (1048576 < p.b.length)) = true then ⟨p.b, true⟩ else ⟨p.b ++ l, false⟩
def Pg.num (p : Pg) (n : Int) : Pg := p.put (enc (fold1 n)) 0
def Pg.row (p : Pg) (z : List Int) : Pg := p.put (encZ z) (errZ z)
def Pg.many (p : Pg) (n : Nat) : Pg := Pg.put ⟨p.b, p.long || decide (4096 < n)⟩ (enc n) 0
def Pg.past (p : Pg) (x : PastD) : Pg := (p.num x.n).row x.z
def Pg.tim (p : Pg) (x : TimD) : Pg := ((p.num x.d).num x.n).num x.s
def Pg.pasts (p : Pg) (l : List PastD) : Pg := l.foldl Pg.past p
def Pg.tims (p : Pg) (l : List TimD) : Pg := l.foldl Pg.tim p
def pg0 : Pg := ⟨[], false⟩
def pg1 (x : InstD) : Pg := ((pg0.row x.act).row x.nums).many x.past.length
def pg2 (x : InstD) : Pg := ((pg1 x).pasts x.past).many x.tms.length
def pg3 (x : InstD) : Pg := ((pg2 x).tims x.tms).num x.now
theorem Pg.put_long {p : Pg} (h : p.long = true) (l : List UInt8) (e : Int) : p.put l e = p := by
  unfold Pg.put
  rw [h]
  simp
  cases p
  simp at h
  simp [h]
theorem Pg.past_long {p : Pg} (h : p.long = true) (x : PastD) : p.past x = p := by
  unfold Pg.past Pg.num Pg.row
  rw [Pg.put_long h, Pg.put_long h]
theorem Pg.tim_long {p : Pg} (h : p.long = true) (x : TimD) : p.tim x = p := by
  unfold Pg.tim Pg.num
  rw [Pg.put_long h, Pg.put_long h, Pg.put_long h]
theorem Pg.pasts_long {p : Pg} (h : p.long = true) : ∀ l, p.pasts l = p
  | [] => rfl
  | x :: l => by
    show Pg.pasts (p.past x) l = p
    rw [Pg.past_long h]
    exact Pg.pasts_long h l
theorem Pg.tims_long {p : Pg} (h : p.long = true) : ∀ l, p.tims l = p
  | [] => rfl
  | x :: l => by
    show Pg.tims (p.tim x) l = p
    rw [Pg.tim_long h]
    exact Pg.tims_long h l
theorem Pg.pasts_append (p : Pg) (a b : List PastD) : p.pasts (a ++ b) = (p.pasts a).pasts b := List.foldl_append
theorem Pg.tims_append (p : Pg) (a b : List TimD) : p.tims (a ++ b) = (p.tims a).tims b := List.foldl_append
theorem Pg.pasts_end {p : Pg} {l : List PastD} {k : Nat} (h : (p.pasts (l.take k)).long = true) : p.pasts (l.take k) = p.pasts l := by
  have e : p.pasts l = (p.pasts (l.take k)).pasts (l.drop k) := by rw [← Pg.pasts_append, List.take_append_drop]
  rw [e, Pg.pasts_long h]
theorem Pg.tims_end {p : Pg} {l : List TimD} {k : Nat} (h : (p.tims (l.take k)).long = true) : p.tims (l.take k) = p.tims l := by
  have e : p.tims l = (p.tims (l.take k)).tims (l.drop k) := by rw [← Pg.tims_append, List.take_append_drop]
  rw [e, Pg.tims_long h]
theorem Pg.pasts_step {p : Pg} {l : List PastD} {k : Nat} (h : k < l.length) : p.pasts (l.take (k + 1)) = (p.pasts (l.take k)).past l[k] := by
  rw [List.take_succ_eq_append_getElem h, Pg.pasts_append]
  rfl
theorem Pg.tims_step {p : Pg} {l : List TimD} {k : Nat} (h : k < l.length) : p.tims (l.take (k + 1)) = (p.tims (l.take k)).tim l[k] := by
  rw [List.take_succ_eq_append_getElem h, Pg.tims_append]
  rfl

/-- The bytes of an instance, whatever their length. -/
def pastL : List PastD → List UInt8
  | [] => []
  | x :: l => enc (fold1 x.n) ++ (encZ x.z ++ pastL l)
def timL : List TimD → List UInt8
  | [] => []
  | x :: l => enc (fold1 x.d) ++ (enc (fold1 x.n) ++ (enc (fold1 x.s) ++ timL l))
def headL (x : InstD) : List UInt8 := encZ x.act ++ (encZ x.nums ++ enc x.past.length)
def midL (x : InstD) : List UInt8 := headL x ++ (pastL x.past ++ enc x.tms.length)
def instL (x : InstD) : List UInt8 := midL x ++ (timL x.tms ++ enc (fold1 x.now))
def longZ (z : List Int) : Bool := decide (4096 < z.length)
def badI (x : InstD) : Bool := longZ x.act || longZ x.nums || decide (4096 < x.past.length) || x.past.any (fun p => longZ p.z) || decide (4096 < x.tms.length)
def instB (x : InstD) : Bool := badI x || decide (1048576 < (instL x).length)
def iS (x : InstD) : List UInt8 := if instB x = true then [] else piece (instL x)
def iE (x : InstD) : Int := if instB x = true then 2 else 0
theorem pastL_append : ∀ (a b : List PastD), pastL (a ++ b) = pastL a ++ pastL b
  | [], b => rfl
  | x :: a, b => by simp [pastL, pastL_append a b]
theorem timL_append : ∀ (a b : List TimD), timL (a ++ b) = timL a ++ timL b
  | [], b => rfl
  | x :: a, b => by simp [timL, timL_append a b]
theorem pastL_step {l : List PastD} {k : Nat} (h : k < l.length) : pastL (l.take (k + 1)) = pastL (l.take k) ++ (enc (fold1 l[k].n) ++ encZ l[k].z) := by
  rw [List.take_succ_eq_append_getElem h, pastL_append]
  simp [pastL]
theorem timL_step {l : List TimD} {k : Nat} (h : k < l.length) : timL (l.take (k + 1)) = timL (l.take k) ++ (enc (fold1 l[k].d) ++ (enc (fold1 l[k].n) ++ enc (fold1 l[k].s))) := by
  rw [List.take_succ_eq_append_getElem h, timL_append]
  simp [timL]
/-- What a page says of the bytes that it should hold. -/
def PgOk (p : Pg) (L : List UInt8) (bad : Bool) : Prop := p.long = false ∧ bad = false ∧ p.b = L ∨ p.long = true ∧ (bad = true ∨ 1048576 < L.length)
theorem PgOk.put {p : Pg} {L : List UInt8} {bad : Bool} (h : PgOk p L bad) (l : List UInt8) (e : Int) : PgOk (p.put l e) (L ++ l) (bad || decide (e ≠ 0)) := by
  rcases h with ⟨h1, h2, h3⟩ | ⟨h1, h2⟩
  · unfold Pg.put
    by_cases he : e = 0
    · by_cases hl : 1048576 < p.b.length
      · rw [if_pos (by simp [hl])]
        exact .inr ⟨rfl, .inr (by rw [h3] at hl; simp; omega)⟩
      · rw [if_neg (by simp [h1, he, hl])]
        exact .inl ⟨rfl, by simp [h2, he], by rw [h3]⟩
    · rw [if_pos (by simp [he])]
      exact .inr ⟨rfl, .inl (by simp [he])⟩
  · rw [Pg.put_long h1]
    refine .inr ⟨h1, ?_⟩
    rcases h2 with h2 | h2
    · exact .inl (by simp [h2])
    · exact .inr (by simp; omega)
theorem PgOk.num {p : Pg} {L : List UInt8} {bad : Bool} (h : PgOk p L bad) (n : Int) : PgOk (p.num n) (L ++ enc (fold1 n)) bad := by
  have := h.put (enc (fold1 n)) 0
  show PgOk (p.put (enc (fold1 n)) 0) _ _
  simpa using this
theorem errZ_ne (z : List Int) : decide (errZ z ≠ 0) = longZ z := by
  unfold errZ longZ
  split <;> simp_all
theorem PgOk.row {p : Pg} {L : List UInt8} {bad : Bool} (h : PgOk p L bad) (z : List Int) : PgOk (p.row z) (L ++ encZ z) (bad || longZ z) := by
  have := h.put (encZ z) (errZ z)
  rwa [errZ_ne] at this
theorem PgOk.many {p : Pg} {L : List UInt8} {bad : Bool} (h : PgOk p L bad) (n : Nat) : PgOk (p.many n) (L ++ enc n) (bad || decide (4096 < n)) := by
  unfold Pg.many
  have h2 : PgOk ⟨p.b, p.long || decide (4096 < n)⟩ L (bad || decide (4096 < n)) := by
    rcases h with ⟨h1, h2, h3⟩ | ⟨h1, h2⟩
    · by_cases hn : 4096 < n
      · exact .inr ⟨by simp [hn], .inl (by simp [hn])⟩
      · exact .inl ⟨by simp [h1, hn], by simp [h2, hn], h3⟩
    · refine .inr ⟨by simp [h1], ?_⟩
      rcases h2 with h2 | h2
      · exact .inl (by simp [h2])
      · exact .inr h2
  have := h2.put (enc n) 0
  simpa using this
theorem PgOk.pasts {p : Pg} {L : List UInt8} {bad : Bool} : ∀ (l : List PastD), PgOk p L bad → PgOk (p.pasts l) (L ++ pastL l) (bad || l.any (fun x => longZ x.z)) := by
  intro l
  induction l generalizing p L bad with
  | nil => intro h; simpa [Pg.pasts, pastL] using h
  | cons x l ih =>
    intro h
    have h2 := ih ((h.num x.n).row x.z)
    show PgOk (Pg.pasts (p.past x) l) _ _
    simpa [pastL, Bool.or_assoc, Pg.past] using h2
theorem PgOk.tims {p : Pg} {L : List UInt8} {bad : Bool} : ∀ (l : List TimD), PgOk p L bad → PgOk (p.tims l) (L ++ timL l) bad := by
  intro l
  induction l generalizing p L bad with
  | nil => intro h; simpa [Pg.tims, timL] using h
  | cons x l ih =>
    intro h
    have h2 := ih (((h.num x.d).num x.n).num x.s)
    show PgOk (Pg.tims (p.tim x) l) _ _
    simpa [timL, Pg.tim] using h2
theorem pg3_ok (x : InstD) : PgOk (pg3 x) (instL x) (badI x) := by
  have h0 : PgOk pg0 [] false := .inl ⟨rfl, rfl, rfl⟩
  have h1 := ((h0.row x.act).row x.nums).many x.past.length
  have h2 := (PgOk.pasts x.past h1).many x.tms.length
  have h3 := (PgOk.tims x.tms h2).num x.now
  have e1 : instL x = [] ++ encZ x.act ++ encZ x.nums ++ enc x.past.length ++ pastL x.past ++ enc x.tms.length ++ timL x.tms ++ enc (fold1 x.now) := by simp [instL, midL, headL]
  have e2 : badI x = (false || longZ x.act || longZ x.nums || decide (4096 < x.past.length) || x.past.any (fun p => longZ p.z) || decide (4096 < x.tms.length)) := by simp [badI]
  rw [e1, e2]
  exact h3
/-- What the program answers is what was said. -/
theorem pg3_long {x : InstD} (h : (pg3 x).long = true) : iS x = [] ∧ iE x = 2 := by
  have hb : instB x = true := by
    rcases pg3_ok x with ⟨h1, _⟩ | ⟨_, h2 | h2⟩
    · rw [h] at h1; cases h1
    · simp [instB, h2]
    · simp [instB, h2]
  exact ⟨if_pos hb, if_pos hb⟩
theorem pg3_short {x : InstD} (h : (pg3 x).long = false) : closeS (pg3 x).b = iS x ∧ closeE (pg3 x).b = iE x := by
  rcases pg3_ok x with ⟨_, h2, h3⟩ | ⟨h1, _⟩
  · unfold iS iE closeS closeE instB
    rw [h3, h2]
    simp
  · rw [h] at h1; cases h1

/-- One number, one row, how many, off the front. -/
def tkI (l : List UInt8) : Option (Int × List UInt8) := if (takeU maxU l).2.2 = 0 then some (unfold1 (takeU maxU l).1, l.drop (takeU maxU l).2.1) else none
def tkZ (l : List UInt8) : Option (List Int × List UInt8) := if (takeZ l).2.2 = 0 then some ((takeZ l).1, l.drop (takeZ l).2.1) else none
def tkN (l : List UInt8) : Option (Nat × List UInt8) := if (takeU maxI l).2.2 = 0 ∧ (takeU maxI l).1 ≤ 4096 then some ((takeU maxI l).1, l.drop (takeU maxI l).2.1) else none
def tkPast (l : List UInt8) : Option (PastD × List UInt8) := (tkI l).bind fun a => (tkZ a.2).map fun b => (⟨a.1, b.1⟩, b.2)
def tkTim (l : List UInt8) : Option (TimD × List UInt8) := (tkI l).bind fun a => (tkI a.2).bind fun b => (tkI b.2).map fun c => (⟨a.1, b.1, c.1⟩, c.2)
def tkRow {α : Type} (f : List UInt8 → Option (α × List UInt8)) : Nat → List UInt8 → List α → Option (List α × List UInt8)
  | 0, l, acc => some (acc, l)
  | k + 1, l, acc => (f l).bind fun a => tkRow f k a.2 (acc ++ [a.1])
def readI (p : List UInt8) : Option InstD :=
  (tkZ p).bind fun a => (tkZ a.2).bind fun n => (tkN n.2).bind fun k => (tkRow tkPast k.1 k.2 []).bind fun ps => (tkN ps.2).bind fun k2 => (tkRow tkTim k2.1 k2.2 []).bind fun ts => (tkI ts.2).bind fun w =>
    if w.2 = [] then some ⟨a.1, n.1, ps.1, ts.1, w.1⟩ else none
def instR (b : List UInt8) : Option InstD := if (openS b).2.2 = 0 ∧ (openS b).2.1 = b.length then readI (openS b).1 else none
end Go.Proofs.Ytaadbklimfngiaa
