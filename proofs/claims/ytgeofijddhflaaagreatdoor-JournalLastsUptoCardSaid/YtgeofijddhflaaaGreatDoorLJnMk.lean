/- journal: acts to come are made (remove, sync, put). No condition. -/
import Derived.Test.YtgeofijddhflaaaGreatDoorLJnSame
import Derived.Test.YtgeofijddhflaaaGreatDoorLDiskCut
set_option linter.unusedVariables false
set_option linter.unusedSimpArgs false
set_option maxHeartbeats 8000000
set_option maxRecDepth 100000
namespace Go.Proofs.YtgeofijddhflaaaGreatDoor
section
open Oct
section
variable {α : Type} {n m : Nm} {l : List (Nm × α)}
theorem bE4 {x : Nm × α} (h : m ≠ x.1) : ∀ l : List (Nm × α), aA9 m (asIns x l) = aA9 m l
 | [] => by
  unfold asIns aA9;rw [List.find?_cons_of_neg (by simpa using fun e : x.1 = m => h e.symm)]
 | y :: r => by
  have ih := bE4 h r;unfold asIns;split
  ·unfold aA9
   rw [List.find?_cons_of_neg (p := fun p : Nm × α => p.1 == m) (by simpa using fun e : x.1 = m => h e.symm)]
  unfold aA9 at ih ⊢;by_cases hy : (y.1 == m) = true
  ·rw [List.find?_cons_of_pos (p := fun p : Nm × α => p.1 == m) hy, List.find?_cons_of_pos (p := fun p : Nm × α => p.1 == m) hy]
  rw [List.find?_cons_of_neg (p := fun p : Nm × α => p.1 == m) hy, List.find?_cons_of_neg (p := fun p : Nm × α => p.1 == m) hy];exact ih
theorem aE7 (h : m ≠ n) (l : List (Nm × α)) : aA9 m (aB6 n l) = aA9 m l := by
 unfold aA9 aB6;induction l with
 | nil => rfl
 | cons y r ih =>
  by_cases hy : y.1 = n
  ·rw [List.filter_cons_of_neg (by simp [hy]), ih, List.find?_cons_of_neg (by simpa [hy] using fun e : n = m => h e.symm)]
  rw [List.filter_cons_of_pos (by simpa using hy)];by_cases hm : (y.1 == m) = true
  ·rw [List.find?_cons_of_pos (p := fun p : Nm × α => p.1 == m) hm, List.find?_cons_of_pos (p := fun p : Nm × α => p.1 == m) hm]
  rw [List.find?_cons_of_neg (p := fun p : Nm × α => p.1 == m) hm, List.find?_cons_of_neg (p := fun p : Nm × α => p.1 == m) hm];exact ih
theorem bO1 (n : Nm) (l : List (Nm × α)) : aA9 n (aB6 n l) = none := by
 unfold aA9;rw [List.find?_eq_none.2 (fun q hq => by simpa using (aI5.1 hq).2)]
 rfl
theorem aE3 (h : m ≠ n) (a : α) (l : List (Nm × α)) : aA9 m (aB3 n a l) = aA9 m l := by
 unfold aB3;rw [bE4 h, aE7 h]
end
def aI6 (pw : PWD) : Prop := pw.off = false ∧ pw.armed = false
theorem aU6 {pw : PWD} (h : aI6 pw) : pw.cut = (false, 0, pw) := by
 unfold PWD.cut;rw [if_pos h.2]
theorem bX1 {n : Nm} {f : FD} {fs : List (Nm × FD)} (h : aA9 n fs = some f) (ha : aG8 fs) : aB7 (aB6 n fs) = aB7 fs - f.b.length := by
 induction fs with
 | nil => cases h
 | cons x r ih =>
  have hr := List.pairwise_cons.1 ha;unfold aA9 at h;by_cases hx : (x.1 == n) = true
  ·rw [List.find?_cons_of_pos (p := fun p : Nm × FD => p.1 == n) hx] at h
   simp at h
   subst h;have hd : aB6 n r = r := by
    unfold aB6;rw [List.filter_eq_self];intro q hq;have h1 := hr.1 q hq;simp only [beq_iff_eq] at hx;rw [hx] at h1;simp only [Bool.not_eq_true', beq_eq_false_iff_ne];intro e;rw [e, WideAt.bytes_irrefl n] at h1;cases h1
   have : aB6 n (x :: r) = aB6 n r := by unfold aB6; rw [List.filter_cons_of_neg (by simp [hx])]
   rw [this, hd];simp only [aB7];omega
  rw [List.find?_cons_of_neg (p := fun p : Nm × FD => p.1 == n) hx] at h;have : aB6 n (x :: r) = x :: aB6 n r := by unfold aB6; rw [List.filter_cons_of_pos (by simpa using hx)]
  rw [this];simp only [aB7];have := ih h hr.2;omega
section
variable {pw : PWD} {room : Int} {fs : List (Nm × FD)} {n : Nm} {f : FD}
theorem bA5 (h : aI6 pw) (hf : aA9 n fs = some f) : (aC3.rm n).run ⟨pw, room, fs⟩ = (0, ⟨pw, room, aB6 n fs⟩) := by
 show DkD.remove _ n = _
 unfold DkD.remove;rw [if_neg (by rw [h.1]; simp)];simp only [hf];unfold DkD.whole;simp only [aU6 h]
 rfl
theorem bY6 (h : aI6 pw) (hf : aA9 n fs = some f) {k : Int} (hk : 0 <= k ∧ k <= f.b.length) : (aC3.cut n k).run ⟨pw, room, fs⟩ = (0, ⟨pw, room, aB3 n ⟨f.b.take k.toNat, min f.safe k.toNat⟩ fs⟩) := by
 show DkD.cutF _ n k = _
 unfold DkD.cutF;rw [if_neg (by rw [h.1]; simp)];simp only [hf];rw [if_neg (by omega)];unfold DkD.whole;simp only [aU6 h]
 rfl
theorem bQ5 (h : aI6 pw) (hf : aA9 n fs = some f) : (aC3.sync n).run ⟨pw, room, fs⟩ = (0, ⟨pw, room, aB3 n ⟨f.b, f.b.length⟩ fs⟩) := by
 show DkD.sync _ n = _
 unfold DkD.sync;rw [if_neg (by rw [h.1]; simp)];simp only [hf, aU6 h]
 rfl
theorem cU1 (h : aI6 pw) (hn : n ≠ [] ∧ n.length <= 32) (p : List UInt8) (hf : (p.length : Int) <= room - aB7 fs) :
  (aC3.app n p).run ⟨pw, room, fs⟩ = (0, ⟨pw, room, aB3 n ⟨((aA9 n fs).getD ⟨[], 0⟩).b ++ p, ((aA9 n fs).getD ⟨[], 0⟩).safe⟩ fs⟩) := by
 show DkD.append _ n [p] = _
 unfold DkD.append;rw [if_neg (by rw [h.1]; simp), if_neg (by rintro (e | e); exact hn.1 e; omega), if_neg (by unfold fits fits DkD.free; simpa using hf)];simp only [aU6 h];simp
theorem cV1 (h : aI6 pw) (hf : aA9 aA3 fs = some f) : aC3.ren.run ⟨pw, room, fs⟩ = (0, ⟨pw, room, aB3 aO9 f (aB6 aA3 fs)⟩) := by
 show DkD.rename _ aA3 aO9 = _
 unfold DkD.rename;rw [if_neg (by rw [h.1]; simp)];simp only [hf];rw [if_neg (by decide)];unfold DkD.whole;simp only [aU6 h]
 rfl
end
theorem aF6 (a : aC3) (r : List aC3) (d : DkD) : aG1 (a :: r) d = if (a.run d).1 = 0 then aG1 r (a.run d).2 else a.run d := rfl
theorem aK7 (a b : List aC3) (d : DkD) (h : (aG1 a d).1 = 0) : aG1 (a ++ b) d = aG1 b (aG1 a d).2 := by
 induction a generalizing d with
 | nil => rfl
 | cons x r ih =>
  rw [List.cons_append, aF6];rw [aF6] at h ⊢;split
  ·rename_i h0
   rw [if_pos h0] at h;exact ih _ h
  rename_i h0
  rw [if_neg h0] at h;exact absurd h h0
theorem aP5 {a b : Int} (ha : 0 <= a) (hb : 0 <= b) (h : aA1 a = aA1 b) : a = b := by
 unfold aA1 at h;injection h with _ h
 unfold Lib.itoa at h;rw [if_neg (by omega), if_neg (by omega)] at h;have h1 := (aO8 a.toNat).1;rw [h, (aO8 b.toNat).1] at h1;omega
theorem aJ8 (k : Int) (h : -9223372036854775808 <= k ∧ k <= 9223372036854775807) : (aA1 k).length <= 22 := by
 have := Lib.itoa_length_le k h.1 h.2;unfold aA1;simp
 omega
end
section
open Oct
structure bP2 (s : aB1) : Prop where
 rise : s.ends.Pairwise (· <= ·)
 pos : ∀ n ∈ s.ends, 0 <= n
 len : s.ends.length = s.l.length + 1
theorem bT5 {l : List Int} (h : l.Pairwise (· <= ·)) : ∀ x ∈ l, x <= l.getLastD 0 := by
 rcases mJ l with rfl | ⟨r, y, rfl⟩
 ·intro x hx; cases hx
 rw [mA] at h ⊢;intro x hx;have hl : (r ++ [y]).getLastD 0 = y := by simp
 rw [hl];rcases List.mem_append.1 hx with hx | hx
 ·exact (List.pairwise_append.1 h).2.2 x hx y (by simp)
 rw [List.mem_singleton.1 hx]; exact Int.le_refl _
theorem aV9 {l : List Int} (h : l ≠ []) : l.getLastD 0 ∈ l := by
 rcases mJ l with rfl | ⟨r, y, rfl⟩
 ·exact absurd rfl h
 simp
theorem bP2.ne {s : aB1} (h : bP2 s) : s.ends ≠ [] := fun e => by have := h.len; rw [e] at this; simp at this
theorem bP2.long0 {s : aB1} (h : bP2 s) : 0 <= s.long := h.pos _ (aV9 h.ne)
theorem bP2.ahead {s : aB1} (h : bP2 s) (ix : Int) : bP2 (s.ahead ix) ∧ (s.ahead ix).long <= s.long ∧ (s.ahead ix).k = s.k := by
 have h1 : s.aheadN ix <= s.l.length := Nat.min_le_right _ _;have hg : bP2 (s.ahead ix) := by
  refine ⟨?_, ?_, ?_⟩
  ·show (s.ends.take _).Pairwise _
   exact h.rise.sublist (List.take_sublist _ _)
  ·intro n hn
   exact h.pos n (List.mem_of_mem_take hn)
  show (s.ends.take _).length = (s.l.take _).length + 1
  rw [lV, lV, h.len];omega
 refine ⟨hg, ?_, rfl⟩;exact bT5 h.rise _ (List.mem_of_mem_take (aV9 hg.ne))
theorem aN5 : ∀ (l : List aF9) (s : aB1), (aA6 s l).k = s.k ∧ (aA6 s l).first = s.first ∧ (aA6 s l).term = s.term
 | [], s => ⟨rfl, rfl, rfl⟩
 | e :: r, s => by unfold aA6; exact aN5 r _
theorem bP2.add : ∀ (l : List aF9) {s : aB1}, bP2 s -> bP2 (aA6 s l) ∧ (aA6 s l).long = s.long + ((l.map aC9).flatten.length : Int)
 | [], s, h => ⟨h, by simp [aA6]⟩
 | e :: r, s, h => by
  have h0 := h.long0;have h1 : bP2 { s with l := s.l ++ [e], ends := s.ends ++ [s.long + (aC9 e).length] } := by
   refine ⟨?_, ?_, ?_⟩
   ·refine List.pairwise_append.2 ⟨h.rise, List.pairwise_singleton _ _, fun a ha b hb => ?_⟩
    rw [List.mem_singleton.1 hb];have := bT5 h.rise a ha;unfold aB1.long;omega
   ·intro n hn
    rcases List.mem_append.1 hn with hn | hn
    ·exact h.pos n hn
    rw [List.mem_singleton.1 hn]; omega
   show (s.ends ++ _).length = (s.l ++ _).length + 1
   rw [lT, lT, h.len]
   rfl
  have h2 := bP2.add r h1;have h3 : aB1.long { s with l := s.l ++ [e], ends := s.ends ++ [s.long + (aC9 e).length] } = s.long + (aC9 e).length := by
   unfold aB1.long;simp
  unfold aA6;refine ⟨h2.1, ?_⟩;rw [h2.2, h3];simp only [mG, List.flatten_cons, lT];omega
def dI0 (fs : List (Nm × FD)) (n : Nm) (k : Int) : Prop := ∃ f, aA9 n fs = some f ∧ k <= f.b.length
theorem dI0.of_eq {fs fs' : List (Nm × FD)} {n : Nm} {k : Int} (h : dI0 fs n k) (e : aA9 n fs' = aA9 n fs) : dI0 fs' n k := by
 obtain ⟨f, h1, h2⟩ := h;exact ⟨f, e.trans h1, h2⟩
section
variable {pw : PWD} {room : Int}
theorem bV0 (h : aI6 pw) : ∀ (ss : List aB1) (fs : List (Nm × FD)), (∀ s ∈ ss, dI0 fs (aA1 s.k) s.long) -> (∀ s ∈ ss, 0 <= s.k) -> ss.Pairwise (fun a b => a.k ≠ b.k) →
  ∃ fs', aG1 (ss.map fun s => aC3.rm (aA1 s.k)) ⟨pw, room, fs⟩ = (0, ⟨pw, room, fs'⟩) ∧ aB7 fs' + (ss.map aB1.long).sum <= aB7 fs ∧ ∀ n, (∀ s ∈ ss, n ≠ aA1 s.k) -> aA9 n fs' = aA9 n fs
 | [], fs, _, _, _ => ⟨fs, rfl, by simp, fun n _ => rfl⟩
 | s :: r, fs, hf, hk, hd => by
  obtain ⟨f, hf1, hf2⟩ := hf s (List.mem_cons_self ..);have hd1 := List.pairwise_cons.1 hd;have hne : ∀ t ∈ r, aA1 t.k ≠ aA1 s.k := fun t ht e => hd1.1 t ht (aP5 (hk s (List.mem_cons_self ..)) (hk t (List.mem_cons_of_mem _ ht)) e.symm)
  obtain ⟨fs', h1, h2, h3⟩ := bV0 h r (aB6 (aA1 s.k) fs) (fun t ht => (hf t (List.mem_cons_of_mem _ ht)).of_eq (aE7 (hne t ht) fs)) (fun t ht => hk t (List.mem_cons_of_mem _ ht)) hd1.2;refine ⟨fs', ?_, ?_, fun n hn => ?_⟩
  ·rw [mG, aF6, bA5 h hf1, if_pos rfl]
   exact h1
  ·have h4 := aL2 hf1
   rw [mG, List.sum_cons];omega
  rw [h3 n (fun t ht => hn t (List.mem_cons_of_mem _ ht)), aE7 (hn s (List.mem_cons_self ..))]
theorem aU0 (h : aI6 pw) {n : Nm} (hn : n ≠ [] ∧ n.length <= 32) (p : List UInt8) {fs : List (Nm × FD)} (hf : (p.length : Int) <= room - aB7 fs) :
  ∃ fs', aG1 [.app n p, .sync n] ⟨pw, room, fs⟩ = (0, ⟨pw, room, fs'⟩) ∧ (∃ f, aA9 n fs' = some f ∧ f.b.length = ((aA9 n fs).getD ⟨[], 0⟩).b.length + p.length) ∧ ∀ m, m ≠ n -> aA9 m fs' = aA9 m fs := by
 have h1 := cU1 h hn p hf;have h2 := bQ5 (room := room) h (aL7 n ⟨((aA9 n fs).getD ⟨[], 0⟩).b ++ p, ((aA9 n fs).getD ⟨[], 0⟩).safe⟩ fs);obtain ⟨f1, a7⟩ : ∃ f : FD, f = ⟨((aA9 n fs).getD ⟨[], 0⟩).b ++ p, ((aA9 n fs).getD ⟨[], 0⟩).safe⟩ := ⟨_, rfl⟩
 rw [<- a7] at h1 h2;refine ⟨aB3 n ⟨f1.b, f1.b.length⟩ (aB3 n f1 fs), ?_, ⟨⟨f1.b, f1.b.length⟩, aL7 _ _ _, ?_⟩, fun m hm => ?_⟩
 ·rw [aF6, h1, if_pos rfl, aF6, h2, if_pos rfl]
  rfl
 ·rw [a7, <- lT]
 rw [aE3 hm, aE3 hm]
end
theorem bJ7 (l : List Int) : ∀ a : Int, l.foldl (· + ·) a = a + l.sum := by
 induction l with
 | nil => intro a; simp
 | cons x r ih =>
  intro a;rw [List.foldl_cons, ih, List.sum_cons];omega
theorem bH7 (k : Int) (h : 1 <= k ∧ k <= 999999999) : aA1 k ≠ [] ∧ (aA1 k).length <= 32 := by
 have := aJ8 k (by omega);exact ⟨by unfold aA1; simp, by omega⟩
structure aT8 (ss : List aB1) (fs : List (Nm × FD)) : Prop where
 seg : ∀ s ∈ ss, bP2 s ∧ (1 <= s.k ∧ s.k <= 999999999) ∧ dI0 fs (aA1 s.k) s.long
 ks : ss.Pairwise fun a b => a.k < b.k
structure RI (j : JnP) (d : DkD) : Prop where
 bad : j.bad = 0
 calm : aI6 d.pw
 segs : aT8 j.segs d.fs
def cC3 (r : Int × JnP × DkD) (j : JnP) (d : DkD) : Prop := RI r.2.1 r.2.2 ∧ (r.1 = 0 ∨ r.1 ≠ 50 ∧ r.2 = (j, d))
theorem cC3.same {j : JnP} {d : DkD} (h : RI j d) {c : Int} (hc : c ≠ 50) : cC3 (c, j, d) j d := ⟨h, .inr ⟨hc, rfl⟩⟩
theorem aT8.keep {ss : List aB1} {fs fs' : List (Nm × FD)} (h : aT8 ss fs) (he : ∀ s ∈ ss, aA9 (aA1 s.k) fs' = aA9 (aA1 s.k) fs) : aT8 ss fs' :=
 ⟨fun s hs => ⟨(h.seg s hs).1, (h.seg s hs).2.1, (h.seg s hs).2.2.of_eq (he s hs)⟩, h.ks⟩
theorem aJ9 (k : Int) : aA1 k ≠ aA3 := by
 intro e;unfold aA1 aA3 at e;injection e with e _
 exact absurd e (by decide)
theorem aM8 (k : Int) : aA1 k ≠ aO9 := by
 intro e;unfold aA1 aO9 at e;injection e with e _
 exact absurd e (by decide)
theorem cA4 {j : JnP} {d : DkD} (h : RI j d) (t v : Int) : cC3 (aE2 j d t v) j d := by
 obtain ⟨pw, room, fs⟩ := d;have hc : aI6 pw := h.calm;unfold aE2;rw [if_neg (by rw [h.bad]; simp)];split
 ·exact cC3.same h (by decide)
 simp only;split
 ·exact cC3.same h (by decide)
 rename_i hroom
 have a9 : ∃ a7, aG1 ((if (DkD.read ⟨pw, room, fs⟩ aA3).2 = 0 then [.rm aA3] else []) ++ [.app aA3 (aP4 t v), .sync aA3, .ren]) ⟨pw, room, fs⟩ = (0, ⟨pw, room, a7⟩) ∧ ∀ k, aA9 (aA1 k) a7 = aA9 (aA1 k) fs := by
  have e9 : DkD.read ⟨pw, room, fs⟩ aA3 = match aA9 aA3 fs with | none => ([], 51) | some f => (f.b, 0) := by
   unfold DkD.read;rw [if_neg (by rw [hc.1]; simp)]
   rfl
  have d8 : ∀ fs1 : List (Nm × FD), ((aP4 t v).length : Int) <= room - aB7 fs1 -> ∃ a7, aG1 [.app aA3 (aP4 t v), .sync aA3, .ren] ⟨pw, room, fs1⟩ = (0, ⟨pw, room, a7⟩) ∧ ∀ k, aA9 (aA1 k) a7 = aA9 (aA1 k) fs1 := fun fs1 hr => by
   obtain ⟨b8, h1, ⟨f, h2, _⟩, h3⟩ := aU0 (room := room) hc (n := aA3) ⟨by decide, by decide⟩ (aP4 t v) hr;have h4 := cV1 (room := room) hc h2;refine ⟨aB3 aO9 f (aB6 aA3 b8), ?_, fun k => ?_⟩
   ·have e : ([aC3.app aA3 (aP4 t v), .sync aA3, .ren] : List aC3) = [.app aA3 (aP4 t v), .sync aA3] ++ [.ren] := rfl
    rw [e, aK7 _ _ _ (by rw [h1]), h1];show aG1 [.ren] ⟨pw, room, b8⟩ = _
    rw [aF6, h4, if_pos rfl]
    rfl
   rw [aE3 (aM8 k), aE7 (aJ9 k), h3 _ (aJ9 k)]
  rw [e9] at hroom ⊢;have a8 : DkD.free ⟨pw, room, fs⟩ = room - aB7 fs := rfl;rw [a8] at hroom;cases hg : aA9 aA3 fs with
  | none =>
   rw [hg] at hroom;simp only [hg];rw [if_neg (by decide), List.nil_append];exact d8 fs (by simp only [List.length_nil] at hroom; omega)
  | some f =>
   rw [hg] at hroom;simp only [hg];rw [if_pos trivial, List.singleton_append, aF6, bA5 hc hg, if_pos rfl];have h5 := aL2 hg;obtain ⟨a7, h6, h7⟩ := d8 (aB6 aA3 fs) (by simp only at hroom; omega);exact ⟨a7, h6, fun k => by rw [h7, aE7 (aJ9 k)]⟩
 obtain ⟨a7, h1, h2⟩ := a9;rw [h1];refine ⟨⟨?_, hc, ?_⟩, .inl rfl⟩
 ·rw [if_pos rfl]
 rw [if_pos rfl];exact h.segs.keep (fun s _ => h2 s.k)
theorem dO6 {ss : List aB1} (h : ss.Pairwise fun a b => a.k < b.k) : ss.Pairwise fun a b => a.k ≠ b.k := h.imp fun h => by omega
theorem aT8.drop {pw : PWD} {room : Int} (hc : aI6 pw) {ss : List aB1} {fs : List (Nm × FD)} (h : aT8 ss fs) (n : Nat) : ∃ a7, aG1 ((ss.take n).map fun s => aC3.rm (aA1 s.k)) ⟨pw, room, fs⟩ = (0, ⟨pw, room, a7⟩) ∧ aT8 (ss.drop n) a7 := by
 have a8 : (ss.take n ++ ss.drop n).Pairwise fun a b => a.k < b.k := by rw [List.take_append_drop]; exact h.ks
 have hp := List.pairwise_append.1 a8;obtain ⟨a7, h1, _, h3⟩ := bV0 (room := room) hc (ss.take n) fs (fun s hs => (h.seg s (List.mem_of_mem_take hs)).2.2) (fun s hs => by have := (h.seg s (List.mem_of_mem_take hs)).2.1; omega) (dO6 hp.1);refine ⟨a7, h1, ⟨fun s hs => ?_, hp.2.1⟩⟩;have hm := h.seg s (List.mem_of_mem_drop hs);refine ⟨hm.1, hm.2.1, hm.2.2.of_eq (h3 _ fun t ht e => ?_)⟩;have h4 := hp.2.2 t ht s hs;have h5 := (h.seg t (List.mem_of_mem_take ht)).2.1;have := aP5 (by omega) (by omega) e;omega
theorem aT8.cutBack {pw : PWD} {room : Int} (hc : aI6 pw) {ss : List aB1} {fs : List (Nm × FD)} (h : aT8 ss fs) (n : Nat) : ∃ a8, aG1 ((ss.drop n).reverse.map fun s => aC3.rm (aA1 s.k)) ⟨pw, room, fs⟩ = (0, ⟨pw, room, a8⟩) ∧ aT8 (ss.take n) a8 ∧ aB7 a8 + ((ss.drop n).reverse.map aB1.long).foldl (· + ·) 0 <= aB7 fs := by
 have a9 : (ss.take n ++ ss.drop n).Pairwise fun a b => a.k < b.k := by rw [List.take_append_drop]; exact h.ks
 have hp := List.pairwise_append.1 a9;have a7 : ∀ s ∈ (ss.drop n).reverse, s ∈ ss := fun s hs => List.mem_of_mem_drop (List.mem_reverse.1 hs)
 obtain ⟨a8, h1, h2, h3⟩ := bV0 (room := room) hc (ss.drop n).reverse fs (fun s hs => (h.seg s (a7 s hs)).2.2) (fun s hs => by have := (h.seg s (a7 s hs)).2.1; omega) (List.pairwise_reverse.2 (hp.2.1.imp fun h => by omega));refine ⟨a8, h1, ⟨fun s hs => ?_, hp.1⟩, by rw [bJ7]; omega⟩;have hm := h.seg s (List.mem_of_mem_take hs);refine ⟨hm.1, hm.2.1, hm.2.2.of_eq (h3 _ fun t ht e => ?_)⟩;have h4 := hp.2.2 s hs t (List.mem_reverse.1 ht);have h5 := (h.seg t (a7 t ht)).2.1;have := aP5 (by omega) (by omega) e;omega
theorem aT8.snoc {ss : List aB1} {fs : List (Nm × FD)} (h : aT8 ss fs) {s : aB1} (h1 : bP2 s) (h2 : 1 <= s.k ∧ s.k <= 999999999) (h3 : dI0 fs (aA1 s.k) s.long) (h4 : ∀ t ∈ ss, t.k < s.k) : aT8 (ss ++ [s]) fs :=
 ⟨fun t ht => by
  rcases List.mem_append.1 ht with ht | ht
  ·exact h.seg t ht
  rw [List.mem_singleton.1 ht]; exact ⟨h1, h2, h3⟩, List.pairwise_append.2 ⟨h.ks, List.pairwise_singleton _ _, fun a ha b hb => by rw [List.mem_singleton.1 hb]; exact h4 a ha⟩⟩
def cW9 (j : JnP) (ix t : Int) : Bool := decide (j.last.1 < ix) || (match aW4 j ix with | some x => decide (x ≠ t) | none => false)
def bR0 (j : JnP) (ix t : Int) : aB1 := ⟨match j.segs.getLast? with | some x => x.k + 1 | none => 1, ix + 1, t, [], [((aE4 (ix + 1) t).length : Int)]⟩
def cZ9 (j : JnP) (ix t : Int) : Prop := ix < j.base.1 ∨ aD6 - 2 < ix ∨ t < 0 ∨ (ix = j.base.1 ∧ (aW4 j ix).getD 0 ≠ t)
instance (j : JnP) (ix t : Int) : Decidable (cZ9 j ix t) := by unfold cZ9; infer_instance
def aQ3 (j : JnP) (d : DkD) (ix t : Int) (new : Bool) (s : aB1) : Int × JnP × DkD :=
 if new = true ∧ 999999999 < s.k then (1, j, d) else if new = true ∧ d.free < ((aE4 (ix + 1) t).length : Int) then (52, j, d) else
 let segs := if new = true then j.segs ++ [s] else j.segs
 let from_ := aV5 segs ix segs.length (if new = true then j.segs.length else 0)
 let r := aG1 ((if new = true then [.app (aA1 s.k) (aE4 (ix + 1) t), .sync (aA1 s.k)] else []) ++ (segs.take from_).map fun x => aC3.rm (aA1 x.k)) d
 (r.1, if r.1 = 0 then { j with segs := segs.drop from_ } else { j with bad := r.1 }, r.2)
theorem aK6 (j : JnP) (d : DkD) (ix t : Int) : aF8 j d ix t = if j.bad ≠ 0 then (j.bad, j, d) else if cZ9 j ix t then (1, j, d) else aQ3 j d ix t (cW9 j ix t) (bR0 j ix t) := rfl
theorem bW7 {j : JnP} {d : DkD} (h : RI j d) (ix t : Int) : cC3 (aF8 j d ix t) j d := by
 obtain ⟨pw, room, fs⟩ := d;have hc : aI6 pw := h.calm;rw [aK6, if_neg (by rw [h.bad]; simp)];split
 ·exact cC3.same h (by decide)
 obtain ⟨new, a9⟩ : ∃ b, b = cW9 j ix t := ⟨_, rfl⟩
 rw [<- a9];clear a9;obtain ⟨s, hs⟩ : ∃ s, s = bR0 j ix t := ⟨_, rfl⟩
 rw [<- hs];unfold bR0 at hs;unfold aQ3;have f9 : bP2 s := by rw [hs]; exact ⟨List.pairwise_singleton _ _, fun n hn => by rw [List.mem_singleton.1 hn]; omega, rfl⟩
 have g6 : s.long = (aE4 (ix + 1) t).length := by rw [hs]; rfl
 have b8 : 1 <= s.k ∧ ∀ q ∈ j.segs, q.k < s.k := by
  rw [hs];rcases mJ j.segs with h0 | ⟨r, x, h0⟩
  ·rw [h0]
   exact ⟨by simp, fun q hq => by cases hq⟩
  rw [mA] at h0;have hx := h.segs.seg x (by rw [h0]; simp);have f7 := h.segs.ks;rw [h0] at f7 ⊢;simp only [List.getLast?_append, List.getLast?_singleton, Option.some_or];refine ⟨by omega, fun q hq => ?_⟩;rcases List.mem_append.1 hq with hq | hq
  ·have := (List.pairwise_append.1 f7).2.2 q hq x (by simp)
   omega
  rw [List.mem_singleton.1 hq];omega
 clear hs;split
 ·exact cC3.same h (by decide)
 rename_i hmax
 split
 ·exact cC3.same h (by decide)
 rename_i hroom
 have a8 : DkD.free ⟨pw, room, fs⟩ = room - aB7 fs := rfl;rw [a8] at hroom;dsimp only
 obtain ⟨n, hn⟩ : ∃ n, n = aV5 (if new = true then j.segs ++ [s] else j.segs) ix (if new = true then j.segs ++ [s] else j.segs).length (if new = true then j.segs.length else 0) := ⟨_, rfl⟩
 rw [<- hn];clear hn;have d8 : ∃ a7, aG1 (if new = true then [.app (aA1 s.k) (aE4 (ix + 1) t), .sync (aA1 s.k)] else []) ⟨pw, room, fs⟩ = (0, ⟨pw, room, a7⟩) ∧ aT8 (if new = true then j.segs ++ [s] else j.segs) a7 := by
  cases new with
  | false => exact ⟨fs, rfl, h.segs⟩
  | true =>
   have e9 : s.k <= 999999999 := by
    have := hmax;simp at this
    omega
   have f8 : ((aE4 (ix + 1) t).length : Int) <= room - aB7 fs := by
    have := hroom;simp at this
    omega
   obtain ⟨a7, h1, ⟨f, h2, h3⟩, h4⟩ := aU0 hc (bH7 s.k ⟨b8.1, e9⟩) (aE4 (ix + 1) t) f8;refine ⟨a7, h1, ?_⟩;rw [if_pos rfl];refine (h.segs.keep fun q hq => h4 _ fun e => ?_).snoc f9 ⟨b8.1, e9⟩ ⟨f, h2, by rw [g6, h3]; omega⟩ b8.2;have h5 := (h.segs.seg q hq).2.1;have h6 := b8.2 q hq;have := aP5 (by omega) (by omega) e;omega
 obtain ⟨a7, h1, h2⟩ := d8;obtain ⟨g7, h3, h4⟩ := h2.drop (room := room) hc n;rw [aK7 _ _ _ (by rw [h1]), h1];simp only;rw [h3];refine ⟨⟨?_, hc, ?_⟩, .inl rfl⟩
 ·rw [if_pos rfl]; exact h.bad
 rw [if_pos rfl]; exact h4
end
section
open Oct
theorem cW6 (j : JnP) (l : List aF9) : bT8 j l ≠ 50 := by
 unfold bT8;split
 ·decide
 split <;> decide
section
variable {j : JnP} {pw : PWD} {room : Int} {fs : List (Nm × FD)}
theorem bV3 (h : RI j ⟨pw, room, fs⟩) {do12 : List aC3} {fs2 : List (Nm × FD)} (a8 : aG1 do12 ⟨pw, room, fs⟩ = (0, ⟨pw, room, fs2⟩)) {K : List aB1} (hK : aT8 K fs2) {s0 : aB1} (hs : bP2 s0) (hk : 1 <= s0.k) (b8 : ∀ t ∈ K, t.k < s0.k) (bh : List UInt8) (d8 : s0.long <= (((aA9 (aA1 s0.k) fs2).getD ⟨[], 0⟩).b.length : Int) + bh.length) (freed : Int) (f7 : aB7 fs2 + freed <= aB7 fs) (l : List aF9) :
  cC3 (if 999999999 < (aA6 s0 l).k then (1, j, ⟨pw, room, fs⟩) else if DkD.free ⟨pw, room, fs⟩ + freed < ((bh ++ (l.map aC9).flatten).length : Int) then (52, j, ⟨pw, room, fs⟩) else
   ((aG1 (do12 ++ [.app (aA1 (aA6 s0 l).k) (bh ++ (l.map aC9).flatten), .sync (aA1 (aA6 s0 l).k)]) ⟨pw, room, fs⟩).1, if (aG1 (do12 ++ [.app (aA1 (aA6 s0 l).k) (bh ++ (l.map aC9).flatten), .sync (aA1 (aA6 s0 l).k)]) ⟨pw, room, fs⟩).1 = 0 then { j with segs := K ++ [aA6 s0 l] } else { j with bad := (aG1 (do12 ++ [.app (aA1 (aA6 s0 l).k) (bh ++ (l.map aC9).flatten), .sync (aA1 (aA6 s0 l).k)]) ⟨pw, room, fs⟩).1 }, (aG1 (do12 ++ [.app (aA1 (aA6 s0 l).k) (bh ++ (l.map aC9).flatten), .sync (aA1 (aA6 s0 l).k)]) ⟨pw, room, fs⟩).2)) j ⟨pw, room, fs⟩ := by
 have hc : aI6 pw := h.calm;obtain ⟨hg, hl⟩ := bP2.add l hs;rw [(aN5 l s0).1];split
 ·exact cC3.same h (by decide)
 rename_i hm
 split
 ·exact cC3.same h (by decide)
 rename_i hr
 have a7 : DkD.free ⟨pw, room, fs⟩ = room - aB7 fs := rfl;rw [a7] at hr;obtain ⟨e9, h1, ⟨f, h2, h3⟩, h4⟩ := aU0 (room := room) hc (bH7 s0.k ⟨hk, by omega⟩) (bh ++ (l.map aC9).flatten) (fs := fs2) (by omega);rw [aK7 _ _ _ (by rw [a8]), a8, h1];refine ⟨⟨?_, hc, ?_⟩, .inl rfl⟩
 ·rw [if_pos rfl]; exact h.bad
 rw [if_pos rfl];have a9 := (aN5 l s0).1;refine (hK.keep fun q hq => h4 _ fun e => ?_).snoc hg (by rw [a9]; omega) ⟨f, by rw [a9]; exact h2, ?_⟩ (fun t ht => by rw [a9]; exact b8 t ht)
 ·have h5 := (hK.seg q hq).2.1
  have h6 := b8 q hq;have := aP5 (by omega) (by omega) e;omega
 rw [hl, h3];rw [lT];omega
theorem cY5 (h : RI j ⟨pw, room, fs⟩) (l : List aF9) : cC3 (aI9 j ⟨pw, room, fs⟩ l) j ⟨pw, room, fs⟩ := by
 have hc : aI6 pw := h.calm;unfold aI9;rw [if_neg (by rw [h.bad]; simp)];split
 ·exact cC3.same h (cW6 j l)
 cases l with
 | nil => exact cC3.same h (by decide)
 | cons e0 r =>
  simp only;obtain ⟨L, hL⟩ : ∃ L, L = e0 :: r := ⟨_, rfl⟩
  rw [<- hL];clear hL;obtain ⟨n, hn⟩ : ∃ n, n = aN9 j.segs e0.ix j.segs.length := ⟨_, rfl⟩
  rw [<- hn];clear hn;have j6 : aT8 j.segs fs := h.segs;obtain ⟨e9, h1, h2, h3⟩ := j6.cutBack (room := room) hc n;obtain ⟨g8, i2⟩ : ∃ x, x = ((j.segs.drop n).reverse.map aB1.long).foldl (· + ·) 0 := ⟨_, rfl⟩
  rw [<- i2] at h3 ⊢;obtain ⟨g7, i1⟩ : ∃ x, x = (j.segs.drop n).reverse.map fun s => aC3.rm (aA1 s.k) := ⟨_, rfl⟩
  rw [<- i1] at h1 ⊢;clear i2 i1;rcases mJ (j.segs.take n) with h0 | ⟨kr, s, h0⟩
  ·rw [h0] at h2 ⊢
   simp only [List.getLast?_nil, Option.map_none, if_true, List.append_nil];exact bV3 h (do12 := g7) h1 (K := []) h2 (s0 := ⟨1, e0.ix, 0, [], [((aE4 e0.ix 0).length : Int)]⟩) ⟨List.pairwise_singleton _ _, fun n hn => by rw [List.mem_singleton.1 hn]; omega, rfl⟩ (by show (1 : Int) <= 1; omega) (fun t ht => by cases ht) (aE4 e0.ix 0) (by show ((aE4 e0.ix 0).length : Int) <= _; omega) (g8 + 0) (by omega) L
  rw [mA] at h0;rw [h0] at h2 ⊢;simp only [List.getLast?_append, List.getLast?_singleton, Option.some_or, Option.map_some, List.dropLast_concat];have b8 := h2.seg s (by simp);have i3 := List.pairwise_append.1 h2.ks;obtain ⟨d8, i6, a8⟩ := b8.1.ahead e0.ix;obtain ⟨c, g9⟩ : ∃ c, c = s.ahead e0.ix := ⟨_, rfl⟩
  rw [<- g9] at d8 i6 a8 ⊢;clear g9;have i4 := d8.long0;have f9 : aT8 kr e9 := ⟨fun q hq => h2.seg q (by simp [hq]), i3.1⟩;have a7 : ∀ q ∈ kr, q.k < s.k := fun q hq => i3.2.2 q hq s (by simp)
  have g6 : ∃ a9, aG1 (g7 ++ (if c.long < s.long then [aC3.cut (aA1 s.k) c.long] else [])) ⟨pw, room, fs⟩ = (0, ⟨pw, room, a9⟩) ∧ aT8 kr a9 ∧ dI0 a9 (aA1 s.k) c.long ∧ aB7 a9 + (g8 + (if c.long < s.long then s.long - c.long else 0)) <= aB7 fs := by
   obtain ⟨f, f7, j8⟩ := b8.2.2;by_cases hlt : c.long < s.long
   rotate_left
   ·rw [if_neg hlt, if_neg hlt, List.append_nil]
    exact ⟨e9, h1, f9, ⟨f, f7, by omega⟩, by omega⟩
   rw [if_pos hlt, if_pos hlt];have h5 := bY6 (room := room) hc f7 (k := c.long) ⟨i4, by omega⟩;obtain ⟨f2, f8⟩ : ∃ f2 : FD, f2 = ⟨f.b.take c.long.toNat, min f.safe c.long.toNat⟩ := ⟨_, rfl⟩
   rw [<- f8] at h5;refine ⟨aB3 (aA1 s.k) f2 e9, ?_, ?_, ⟨f2, aL7 _ _ _, ?_⟩, ?_⟩
   ·rw [aK7 _ _ _ (by rw [h1]), h1, aF6]
    dsimp only
    rw [h5, if_pos rfl]
    rfl
   ·refine f9.keep fun q hq => aE3 (fun e => ?_) _ _
    have h6 := a7 q hq;have h7 := (f9.seg q hq).2.1;have := aP5 (by omega) (by omega) e;omega
   ·rw [f8]
    simp only [lV];omega
   rw [bC5];have h8 := aL2 f7;rw [f8];simp only [lV];omega
  obtain ⟨a9, h4, h5, h6, h7⟩ := g6;by_cases hnew : 600 <= c.long
  ·rw [decide_eq_true hnew]
   simp only [if_true];have := bV3 h h4 (K := kr ++ [c]) (h5.snoc d8 (by rw [a8]; exact b8.2.1) (by rw [a8]; exact h6) (fun t ht => by rw [a8]; exact a7 t ht)) (s0 := ⟨s.k + 1, e0.ix, c.last.2, [], [((aE4 e0.ix c.last.2).length : Int)]⟩) ⟨List.pairwise_singleton _ _, fun n hn => by rw [List.mem_singleton.1 hn]; omega, rfl⟩ (by show 1 <= s.k + 1; have := b8.2.1; omega) (fun t ht => by
    show t.k < s.k + 1
    rcases List.mem_append.1 ht with ht | ht
    ·have := a7 t ht; omega
    rw [List.mem_singleton.1 ht, a8]; omega) (aE4 e0.ix c.last.2) (by show ((aE4 e0.ix c.last.2).length : Int) <= _; omega) _ h7 L
   exact this
  rw [decide_eq_false hnew];simp only [Bool.false_eq_true, if_false, List.dropLast_concat];obtain ⟨f, h8, h9⟩ := h6;exact bV3 h h4 (K := kr) h5 (s0 := c) d8 (by rw [a8]; exact b8.2.1.1) (fun t ht => by rw [a8]; exact a7 t ht) [] (by rw [a8, h8]; simp only [Option.getD_some, List.length_nil]; omega) _ h7 L
end
end
section
open Oct
def bV2 (j : JnP) (d : DkD) (l : List aF9) (ix : Int) : Int × JnP × DkD :=
  let n := aN9 j.segs ix j.segs.length
  let gone := (j.segs.drop n).reverse
  let freed1 := (gone.map aB1.long).foldl (· + ·) 0
  let do1 := gone.map fun s => aC3.rm (aA1 s.k)
  let kept := j.segs.take n
  let cut := kept.getLast?.map fun s => (s, s.ahead ix)
  let freed := freed1 + (match cut with | some (s, c) => if c.long < s.long then s.long - c.long else 0 | none => 0)
  let do2 := match cut with | some (s, c) => (if c.long < s.long then [aC3.cut (aA1 s.k) c.long] else []) | none => []
  let kept2 := match cut with | some (_, c) => kept.dropLast ++ [c] | none => kept
  let new := match cut with | some (_, c) => decide (600 <= c.long) | none => true
  let fk := match cut with | some (s, _) => s.k + 1 | none => 1
  let ft := match cut with | some (_, c) => c.last.2 | none => 0
  let hd := aE4 ix ft
  let s0 : aB1 := if new = true then ⟨fk, ix, ft, [], [(hd.length : Int)]⟩ else (match cut with | some (_, c) => c | none => ⟨fk, ix, ft, [], []⟩)
  let b := (if new = true then hd else []) ++ (l.map aC9).flatten
  let s1 := aA6 s0 l
  let segs := (if new = true then kept2 else kept2.dropLast) ++ [s1]
  if 999999999 < s1.k then (1, j, d) else if d.free + freed < (b.length : Int) then (52, j, d) else
  let r := aG1 (do1 ++ do2 ++ [.app (aA1 s1.k) b, .sync (aA1 s1.k)]) d
  (r.1, if r.1 = 0 then { j with segs := segs } else { j with bad := r.1 }, r.2)
theorem bV1 {j : JnP} {d : DkD} {l : List aF9} {e0 : aF9} {r : List aF9} (hb : j.bad = 0) (hm : bT8 j l = 0) (hl : l = e0 :: r) : aI9 j d l = bV2 j d l e0.ix := by
 subst hl;unfold aI9;rw [if_neg (by rw [hb]; simp), if_neg (by rw [hm]; simp)]
 rfl
def aO5 (j : JnP) (k : Nat) : List aB1 := (j.segs.drop k).reverse
theorem bP9 {j : JnP} {k : Nat} (h : k < j.segs.length) : aO5 j k = aO5 j (k + 1) ++ [j.segs[k]] := by
 unfold aO5;rw [List.drop_eq_getElem_cons h, List.reverse_cons]
def aH8 (j : JnP) (k : Nat) : Int := ((aO5 j k).map aB1.long).foldl (· + ·) 0
theorem bJ9 {j : JnP} {k : Nat} (h : k < j.segs.length) : aH8 j k = aH8 j (k + 1) + j.segs[k].long := by
 unfold aH8;rw [bP9 h, mE, List.foldl_append]
 rfl
theorem bJ8 {j : JnP} (hl : ∀ s ∈ j.segs, 0 <= s.long ∧ s.long <= 1000000000000) (n : Nat) (hn : j.segs.length = n) : ∀ i, i <= n -> 0 <= aH8 j (n - i) ∧ aH8 j (n - i) <= i * 1000000000000
 | 0, _ => by
  unfold aH8 aO5;rw [Nat.sub_zero, List.drop_eq_nil_of_le (by omega)];simp
 | i + 1, hi => by
  have ih := bJ8 hl n hn i (by omega);have h1 : n - (i + 1) < j.segs.length := by omega
  rw [bJ9 h1, show n - (i + 1) + 1 = n - i by omega];have := hl _ (lX h1);omega
def aX6 (j : JnP) (d : DkD) (l : List aF9) (do12 : List aC3) (freed : Int) (K : List aB1) (s0 : aB1) (bh : List UInt8) : Int × JnP × DkD :=
 if 999999999 < (aA6 s0 l).k then (1, j, d) else if d.free + freed < ((bh ++ (l.map aC9).flatten).length : Int) then (52, j, d) else
  ((aG1 (do12 ++ [.app (aA1 (aA6 s0 l).k) (bh ++ (l.map aC9).flatten), .sync (aA1 (aA6 s0 l).k)]) d).1, if (aG1 (do12 ++ [.app (aA1 (aA6 s0 l).k) (bh ++ (l.map aC9).flatten), .sync (aA1 (aA6 s0 l).k)]) d).1 = 0 then { j with segs := K ++ [aA6 s0 l] } else { j with bad := (aG1 (do12 ++ [.app (aA1 (aA6 s0 l).k) (bh ++ (l.map aC9).flatten), .sync (aA1 (aA6 s0 l).k)]) d).1 }, (aG1 (do12 ++ [.app (aA1 (aA6 s0 l).k) (bh ++ (l.map aC9).flatten), .sync (aA1 (aA6 s0 l).k)]) d).2)
def aR1 (s c : aB1) : List aC3 := if c.long < s.long then [aC3.cut (aA1 s.k) c.long] else []
def aO4 (s c : aB1) : Int := if c.long < s.long then s.long - c.long else 0
section
variable {j : JnP} {d : DkD} {l : List aF9} {ix : Int} {N : Nat}
theorem bD5 (hN : N = aN9 j.segs ix j.segs.length) (h0 : j.segs.take N = []) : bV2 j d l ix = aX6 j d l ((aO5 j N).map fun s => aC3.rm (aA1 s.k)) (aH8 j N + 0) [] ⟨1, ix, 0, [], [((aE4 ix 0).length : Int)]⟩ (aE4 ix 0) := by
 unfold bV2 aX6 aH8 aO5;dsimp only
 rw [<- hN, h0];simp only [List.getLast?_nil, Option.map_none, if_true, List.append_nil]
theorem bM7 (hN : N = aN9 j.segs ix j.segs.length) {kr : List aB1} {s c : aB1} (h0 : j.segs.take N = kr ++ [s]) (hc : c = s.ahead ix) (hn : 600 <= c.long) : bV2 j d l ix = aX6 j d l ((aO5 j N).map (fun s => aC3.rm (aA1 s.k)) ++ aR1 s c) (aH8 j N + aO4 s c) (kr ++ [c]) ⟨s.k + 1, ix, c.last.2, [], [((aE4 ix c.last.2).length : Int)]⟩ (aE4 ix c.last.2) := by
 unfold bV2 aX6 aH8 aO5 aR1 aO4;dsimp only
 rw [<- hN, h0];simp only [List.getLast?_append, List.getLast?_singleton, Option.some_or, Option.map_some, List.dropLast_concat, <- hc, decide_eq_true hn, if_true]
theorem bM8 (hN : N = aN9 j.segs ix j.segs.length) {kr : List aB1} {s c : aB1} (h0 : j.segs.take N = kr ++ [s]) (hc : c = s.ahead ix) (hn : ¬ 600 <= c.long) : bV2 j d l ix = aX6 j d l ((aO5 j N).map (fun s => aC3.rm (aA1 s.k)) ++ aR1 s c) (aH8 j N + aO4 s c) kr c [] := by
 unfold bV2 aX6 aH8 aO5 aR1 aO4;dsimp only
 rw [<- hN, h0];simp only [List.getLast?_append, List.getLast?_singleton, Option.some_or, Option.map_some, List.dropLast_concat, <- hc, decide_eq_false hn, Bool.false_eq_true, if_false]
end
theorem bE2 : ∀ (a : List aF9) (s : aB1) (e : aF9), aA6 s (a ++ [e]) = { aA6 s a with l := (aA6 s a).l ++ [e], ends := (aA6 s a).ends ++ [(aA6 s a).long + (aC9 e).length] }
 | [], s, e => rfl
 | x :: r, s, e => by
  show aA6 _ (r ++ [e]) = _
  rw [bE2 r]
  rfl
theorem aK5 : ∀ (a : List aF9) (s : aB1), (aA6 s a).l = s.l ++ a ∧ (aA6 s a).ends.length = s.ends.length + a.length
 | [], s => by simp [aA6]
 | x :: r, s => by
  obtain ⟨h1, h2⟩ := aK5 r { s with l := s.l ++ [x], ends := s.ends ++ [s.long + (aC9 x).length] };show (aA6 { s with l := s.l ++ [x], ends := s.ends ++ [s.long + (aC9 x).length] } r).l = _ ∧ _
  refine ⟨by rw [h1]; simp, ?_⟩;show (aA6 { s with l := s.l ++ [x], ends := s.ends ++ [s.long + (aC9 x).length] } r).ends.length = _
  rw [h2];simp
  omega
theorem bE1 : ∀ (a : List aF9) (s : aB1), (aA6 s a).long = s.long + ((a.map aC9).flatten.length : Int)
 | [], s => by simp [aA6]
 | x :: r, s => by
  show (aA6 { s with l := s.l ++ [x], ends := s.ends ++ [s.long + (aC9 x).length] } r).long = _
  rw [bE1 r];have h : aB1.long { s with l := s.l ++ [x], ends := s.ends ++ [s.long + (aC9 x).length] } = s.long + (aC9 x).length := by
   unfold aB1.long;simp
  rw [h];simp only [mG, List.flatten_cons, lT];omega
theorem bC4 (j : JnP) (N : Nat) : aH8 j N = ((j.segs.drop N).map aB1.long).sum := by
 unfold aH8 aO5;rw [bJ7, List.map_reverse, List.sum_reverse];omega
theorem dB8 {j : JnP} {m1 : Nat} (h : m1 < j.segs.length) (hp : ∀ s ∈ j.segs, 0 <= s.long) {c : aB1} (hc : 0 <= c.long) : aH8 j (m1 + 1) + aO4 j.segs[m1] c <= (j.segs.map aB1.long).sum := by
 have h1 : (j.segs.map aB1.long).sum = ((j.segs.take m1).map aB1.long).sum + ((j.segs.drop m1).map aB1.long).sum := by
  rw [<- List.sum_append, <- mE, List.take_append_drop]
 have h2 : 0 <= ((j.segs.take m1).map aB1.long).sum := by
  have : ∀ l : List aB1, (∀ s ∈ l, 0 <= s.long) -> 0 <= (l.map aB1.long).sum := by
   intro l;induction l with
   | nil => intro _; simp
   | cons x r ih =>
    intro hl;have := ih (fun s hs => hl s (List.mem_cons_of_mem _ hs));have := hl x (List.mem_cons_self ..);rw [mG, List.sum_cons];omega
  exact this _ (fun s hs => hp s (List.mem_of_mem_take hs))
 rw [List.drop_eq_getElem_cons h, mG, List.sum_cons] at h1;rw [bC4];have h3 := hp _ (lX h);unfold aO4;split <;> omega
end
section
open Oct
theorem aL0 (a b : List aC3) : aF4 (a ++ b) = aF4 a + aF4 b := by unfold aF4; rw [mE, List.sum_append]
theorem aU8 (l : List aB1) : aF4 (l.map fun s => aC3.rm (aA1 s.k)) = 0 := by
 induction l with
 | nil => rfl
 | cons x r ih => unfold aF4 at ih ⊢; rw [mG, mG, List.sum_cons, ih]; rfl
theorem bW8 (s c : aB1) : aF4 (aR1 s c) = 0 := by
 unfold aR1;split <;> rfl
theorem bK3 {f t : Int} (hf : f <= 9223372036854775807) (ht : -9223372036854775808 <= t ∧ t <= 9223372036854775807) : (aE4 f t).length <= 1048600 := by
 refine aF3 ?_;have h1 : (cC2 f).length <= 10 := by
  unfold cC2;split
  ·simp
  exact aM0 _ (by omega)
 have h2 : (aH1 [t]).length <= 10 := aI7 (z := [t]) (by intro n hn; obtain rfl := List.mem_singleton.1 hn; exact ht);rw [lT];omega
theorem aB1.last_tm {s : aB1} (h : bG2 s) : -9223372036854775808 <= s.last.2 ∧ s.last.2 <= 9223372036854775807 := by
 unfold aB1.last;rcases mJ s.l with h0 | ⟨r, e, h0⟩
 ·rw [h0]; exact h.term
 rw [mA] at h0;have := h.ent e (by rw [h0]; simp);rw [h0];simp only [List.getLast?_append, List.getLast?_singleton, Option.some_or];exact this.2.1
theorem bG2.aheadB {s : aB1} (h : bG2 s) (ix : Int) : bG2 (s.ahead ix) := ⟨h.k, h.first, h.term, fun e he => h.ent e (List.mem_of_mem_take he), fun n hn => h.ends n (List.mem_of_mem_take hn)⟩
theorem saveJ_shape (j : JnP) (d : DkD) (l : List aF9) (hB : ∀ s ∈ j.segs, bG2 s) (hl : ∀ e ∈ l, e.ix <= 9223372036854775807) : (∃ c, aI9 j d l = (c, j, d)) ∨ ∃ (ix : Int) (do12 : List aC3) (fr : Int) (K : List aB1) (s0 : aB1) (bh : List UInt8), aI9 j d l = aX6 j d l do12 fr K s0 bh ∧ aF4 do12 = 0 ∧ bh.length <= 1048600 ∧ K.length <= j.segs.length ∧ (∀ s ∈ K, s ∈ j.segs ∨ ∃ t ∈ j.segs, s = t.ahead ix) ∧ ((∃ t ∈ j.segs, s0 = t.ahead ix) ∨ s0.l = []) := by
 by_cases hb : j.bad = 0
 rotate_left
 ·refine .inl ⟨j.bad, ?_⟩
  unfold aI9;rw [if_pos hb]
 by_cases hm : bT8 j l = 0
 ·cases l with
  | nil =>
   refine .inl ⟨0, ?_⟩;unfold aI9;rw [if_neg (by rw [hb]; simp), if_neg (by rw [hm]; simp)]
  | cons e0 r =>
   have hx := hl e0 (List.mem_cons_self ..);have a8 := bV1 (d := d) hb hm (rfl : e0 :: r = e0 :: r);obtain ⟨N, hN⟩ : ∃ N, N = aN9 j.segs e0.ix j.segs.length := ⟨_, rfl⟩
   have a7 : ∀ s ∈ j.segs.take N, s ∈ j.segs := fun s hs => List.mem_of_mem_take hs
   rcases mJ (j.segs.take N) with h0 | ⟨kr, s, h0⟩
   ·exact .inr ⟨e0.ix, _, _, _, _, _, a8.trans (bD5 hN h0), aU8 _, bK3 hx (by omega), by simp, (fun s hs => by cases hs), .inr rfl⟩
   rw [mA] at h0;have hs : s ∈ j.segs := a7 s (by rw [h0]; simp);have d8 : kr.length + 1 <= j.segs.length := by
    have := congrArg List.length h0;rw [lV, lT] at this;simp at this
    omega
   have b8 : ∀ t ∈ kr, t ∈ j.segs := fun t ht => a7 t (by rw [h0]; simp [ht])
   have a9 : aF4 ((aO5 j N).map (fun s => aC3.rm (aA1 s.k)) ++ aR1 s (s.ahead e0.ix)) = 0 := by rw [aL0, aU8, bW8]
   by_cases hn : 600 <= (s.ahead e0.ix).long
   ·refine .inr ⟨e0.ix, _, _, _, _, _, a8.trans (bM7 hN h0 rfl hn), a9, bK3 hx (aB1.last_tm ((hB s hs).aheadB _)), by simp; omega, fun t ht => ?_, .inr rfl⟩
    rcases List.mem_append.1 ht with ht | ht
    ·exact .inl (b8 t ht)
    exact .inr ⟨s, hs, List.mem_singleton.1 ht⟩
   exact .inr ⟨e0.ix, _, _, _, _, _, a8.trans (bM8 hN h0 rfl hn), a9, by simp, by omega, fun t ht => .inl (b8 t ht), .inl ⟨s, hs, rfl⟩⟩
 refine .inl ⟨bT8 j l, ?_⟩;unfold aI9;rw [if_neg (by rw [hb]; simp), if_pos hm]
theorem cP3 (j : JnP) (d : DkD) (l : List aF9) (do12 : List aC3) (fr : Int) (K : List aB1) (s0 : aB1) (bh : List UInt8) : ((aX6 j d l do12 fr K s0 bh).2.1.segs = j.segs ∨ (aX6 j d l do12 fr K s0 bh).2.1.segs = K ++ [aA6 s0 l]) ∧ ((aX6 j d l do12 fr K s0 bh).2.2 = d ∨ (aX6 j d l do12 fr K s0 bh).2.2 = (aG1 (do12 ++ [.app (aA1 (aA6 s0 l).k) (bh ++ (l.map aC9).flatten), .sync (aA1 (aA6 s0 l).k)]) d).2) := by
 unfold aX6;split
 ·exact ⟨.inl rfl, .inl rfl⟩
 split
 ·exact ⟨.inl rfl, .inl rfl⟩
 refine ⟨?_, .inr rfl⟩;dsimp only
 split
 ·exact .inr rfl
 exact .inl rfl
def rbD (k : Nat) : Nat := k * 14000000
def rbE (k : Nat) : Nat := k * 1048576
theorem bU6 (k : Nat) : rbD (k + 1) = rbD k + 14000000 := Nat.succ_mul k 14000000
theorem bU7 (k : Nat) : rbE (k + 1) = rbE k + 1048576 := Nat.succ_mul k 1048576
theorem cK4 {k k' : Nat} (h : k <= k') : rbD k <= rbD k' := Nat.mul_le_mul_right _ h
theorem cK5 {k k' : Nat} (h : k <= k') : rbE k <= rbE k' := Nat.mul_le_mul_right _ h
structure RB (k : Nat) (j : JnP) (d : DkD) : Prop where
 dk : JDk (rbD k) d
 len : j.segs.length <= k
 ent : ∀ s ∈ j.segs, s.l.length <= rbE k
theorem RB.mono {k k' : Nat} {j : JnP} {d : DkD} (h : RB k j d) (hk : k <= k') : RB k' j d :=
 ⟨h.dk.mono (cK4 hk), Nat.le_trans h.len hk, fun s hs => Nat.le_trans (h.ent s hs) (cK5 hk)⟩
theorem bW0 (s : aB1) (ix : Int) : (s.ahead ix).l.length <= s.l.length := by
 show (s.l.take _).length <= _
 rw [lV];omega
theorem RB.save {k : Nat} {j : JnP} {d : DkD} (h : RB k j d) (l : List aF9) (hB : ∀ s ∈ j.segs, bG2 s) (hl : ∀ e ∈ l, e.ix <= 9223372036854775807) (hn : l.length <= 1048576) (hp : (l.map aC9).flatten.length <= 12600000) : RB (k + 1) (aI9 j d l).2.1 (aI9 j d l).2.2 := by
 rcases saveJ_shape j d l hB hl with ⟨c, hc⟩ | ⟨ix, do12, fr, K, s0, bh, he, hc, hb, hK, a7, h0⟩
 ·rw [hc]; exact h.mono (by omega)
 rw [he];obtain ⟨h1, h2⟩ := cP3 j d l do12 fr K s0 bh;have a8 : s0.l.length <= rbE k := by
  rcases h0 with ⟨t, ht, rfl⟩ | h0
  ·exact Nat.le_trans (bW0 t ix) (h.ent t ht)
  rw [h0]; simp
 have hx := bU7 k;have a9 := bU6 k;refine ⟨?_, ?_, fun s hs => ?_⟩
 ·rcases h2 with h2 | h2
  ·rw [h2]; exact h.dk.mono (by omega)
  rw [h2];refine (JDk.runs _ h.dk).mono ?_;rw [aL0, hc];have : aF4 [aC3.app (aA1 (aA6 s0 l).k) (bh ++ (l.map aC9).flatten), .sync (aA1 (aA6 s0 l).k)] = (bh ++ (l.map aC9).flatten).length + 1 := by simp [aF4, aC3.cost]
  rw [this, lT];omega
 ·rcases h1 with h1 | h1
  ·rw [h1]; have := h.len; omega
  rw [h1, lT];have := h.len;simp
  omega
 rcases h1 with h1 | h1
 ·rw [h1] at hs; have := h.ent s hs; omega
 rw [h1] at hs;rcases List.mem_append.1 hs with hs | hs
 ·rcases a7 s hs with h3 | ⟨t, ht, rfl⟩
  ·have := h.ent s h3; omega
  have := h.ent t ht; have := bW0 t ix; omega
 rw [List.mem_singleton.1 hs, (aK5 l s0).1, lT];omega
theorem RB.setMeta {k : Nat} {j : JnP} {d : DkD} (h : RB k j d) (t v : Int) (ht : -9223372036854775808 <= t ∧ t <= 9223372036854775807) (hv : -9223372036854775808 <= v ∧ v <= 9223372036854775807) : RB (k + 1) (aE2 j d t v).2.1 (aE2 j d t v).2.2 := by
 have b8 : (aP4 t v).length <= 1048600 := by
  refine aF3 ?_;have := aI7 (z := [t, v]) (by
   intro n hn;simp only [List.mem_cons, List.not_mem_nil, or_false] at hn;rcases hn with rfl | rfl
   ·exact ht
   exact hv)
  simp at this
  omega
 have hx := bU7 k;have d8 := bU6 k;unfold aE2;split
 ·exact h.mono (by omega)
 split
 ·exact h.mono (by omega)
 obtain ⟨al, a7⟩ : ∃ al, al = (if (d.read aA3).2 = 0 then [aC3.rm aA3] else []) ++ [aC3.app aA3 (aP4 t v), .sync aA3, .ren] := ⟨_, rfl⟩
 dsimp only
 rw [<- a7];have a9 : aF4 al <= 1048601 := by
  rw [a7, aL0];have h1 : aF4 (if (d.read aA3).2 = 0 then [aC3.rm aA3] else []) = 0 := by split <;> rfl
  have h2 : aF4 [aC3.app aA3 (aP4 t v), .sync aA3, .ren] = (aP4 t v).length + 1 := by simp [aF4, aC3.cost]
  rw [h1, h2];omega
 have hd : JDk (rbD (k + 1)) (aG1 al d).2 := (JDk.runs al h.dk).mono (by omega);clear a7;split
 ·exact h.mono (by omega)
 obtain ⟨r, hr⟩ : ∃ r, r = aG1 al d := ⟨_, rfl⟩
 rw [<- hr] at hd ⊢;have e : (if r.1 = 0 then (⟨t, v, j.segs, 0⟩ : JnP) else { j with bad := r.1 }).segs = j.segs := by split <;> rfl
 refine ⟨hd, ?_, fun s hs => ?_⟩
 ·show (if r.1 = 0 then (⟨t, v, j.segs, 0⟩ : JnP) else { j with bad := r.1 }).segs.length <= _
  rw [e];have := h.len;omega
 have a8 : s ∈ (if r.1 = 0 then (⟨t, v, j.segs, 0⟩ : JnP) else { j with bad := r.1 }).segs := hs;rw [e] at a8;have := h.ent s a8;omega
theorem RB.compact {k : Nat} {j : JnP} {d : DkD} (h : RB k j d) (ix t : Int) (g6 : -9223372036854775808 <= ix ∧ ix <= 9223372036854775807) (ht : -9223372036854775808 <= t ∧ t <= 9223372036854775807) : RB (k + 1) (aF8 j d ix t).2.1 (aF8 j d ix t).2.2 := by
 have hx := bU7 k;have g7 := bU6 k;rw [aK6];split
 ·exact h.mono (by omega)
 split
 ·exact h.mono (by omega)
 rename_i hb hbad
 have hi : ix <= 9223372036854775805 := by
  unfold cZ9 aD6 at hbad;omega
 have f9 : (aE4 (ix + 1) t).length <= 1048600 := bK3 (by omega) ht;obtain ⟨new, a8⟩ : ∃ b, b = cW9 j ix t := ⟨_, rfl⟩
 obtain ⟨s, hs⟩ : ∃ s, s = bR0 j ix t := ⟨_, rfl⟩
 rw [<- a8, <- hs];have f7 : s.l = [] := by rw [hs]; rfl
 have d8 := h.len;unfold aQ3;split
 ·exact h.mono (by omega)
 split
 ·exact h.mono (by omega)
 dsimp only
 obtain ⟨n, hn⟩ : ∃ n, n = aV5 (if new = true then j.segs ++ [s] else j.segs) ix (if new = true then j.segs ++ [s] else j.segs).length (if new = true then j.segs.length else 0) := ⟨_, rfl⟩
 rw [<- hn];have e9 : (if new = true then j.segs ++ [s] else j.segs).length <= k + 1 := by split <;> (try rw [lT]) <;> (try simp) <;> omega
 have b8 : ∀ q ∈ (if new = true then j.segs ++ [s] else j.segs), q.l.length <= rbE (k + 1) := fun q hq => by
  have h1 : q ∈ j.segs ∨ q = s := by
   split at hq
   ·rcases List.mem_append.1 hq with hq | hq
    ·exact .inl hq
    exact .inr (List.mem_singleton.1 hq)
   exact .inl hq
  rcases h1 with h1 | h1
  ·have := h.ent q h1; omega
  rw [h1, f7]; simp
 obtain ⟨S, hS⟩ : ∃ S, S = (if new = true then j.segs ++ [s] else j.segs) := ⟨_, rfl⟩
 rw [<- hS] at e9 b8 ⊢;obtain ⟨al, a9⟩ : ∃ al, al = (if new = true then [aC3.app (aA1 s.k) (aE4 (ix + 1) t), .sync (aA1 s.k)] else []) ++ (S.take n).map fun x => aC3.rm (aA1 x.k) := ⟨_, rfl⟩
 rw [<- a9];have f8 : aF4 al <= 1048601 := by
  rw [a9, aL0, aU8];have h1 : aF4 (if new = true then [aC3.app (aA1 s.k) (aE4 (ix + 1) t), .sync (aA1 s.k)] else []) <= (aE4 (ix + 1) t).length + 1 := by split <;> simp [aF4, aC3.cost]
  omega
 have hd : JDk (rbD (k + 1)) (aG1 al d).2 := (JDk.runs al h.dk).mono (by omega);obtain ⟨r, hr⟩ : ∃ r, r = aG1 al d := ⟨_, rfl⟩
 rw [<- hr] at hd ⊢;have e : (if r.1 = 0 then { j with segs := S.drop n } else { j with bad := r.1 } : JnP).segs = S.drop n ∨ (if r.1 = 0 then { j with segs := S.drop n } else { j with bad := r.1 } : JnP).segs = j.segs := by
  split
  ·exact .inl rfl
  exact .inr rfl
 refine ⟨hd, ?_, fun q hq => ?_⟩
 ·show (if r.1 = 0 then { j with segs := S.drop n } else { j with bad := r.1 } : JnP).segs.length <= _
  rcases e with e | e
  ·rw [e, lZ]; omega
  rw [e]; omega
 have a7 : q ∈ (if r.1 = 0 then { j with segs := S.drop n } else { j with bad := r.1 } : JnP).segs := hq;rcases e with e | e
 ·rw [e] at a7; exact b8 q (List.mem_of_mem_drop a7)
 rw [e] at a7; have := h.ent q a7; omega
end
section
open Oct
theorem RI.sum {j : JnP} {d : DkD} (h : RI j d) : (j.segs.map aB1.long).sum <= aB7 d.fs := by
 obtain ⟨pw, room, fs⟩ := d;obtain ⟨a7, _, _, h3⟩ := h.segs.cutBack (pw := pw) (room := room) h.calm 0;have h4 := aE5 a7;rw [bJ7, List.map_reverse, List.sum_reverse, List.drop_zero] at h3;simp only at h3 ⊢;omega
theorem bP2.ends_le {s : aB1} (h : bP2 s) : s.ends ≠ [] ∧ ∀ n ∈ s.ends, 0 <= n ∧ n <= s.long := ⟨h.ne, fun n hn => ⟨h.pos n hn, bT5 h.rise n hn⟩⟩
theorem RI.long_le {j : JnP} {d : DkD} (h : RI j d) : ∀ s ∈ j.segs, 0 <= s.long ∧ s.long <= aB7 d.fs := fun s hs => by
 obtain ⟨hg, _, f, hf1, hf2⟩ := h.segs.seg s hs;have h1 := aP3 (aC7 hf1);simp only at h1;exact ⟨hg.long0, by omega⟩
structure bS1 (j : JnP) (d : DkD) : Prop where
 seg : j.segs.length <= 1000000
 ks : ∀ s ∈ j.segs, 1 <= s.k ∧ s.k <= 999999999
 long : ∀ s ∈ j.segs, s.l.length <= 100000000 ∧ 0 <= s.long ∧ s.long <= 1000000000000
 ends : ∀ s ∈ j.segs, s.ends ≠ [] ∧ ∀ n ∈ s.ends, 0 <= n ∧ n <= 1000000000000
 sum : (j.segs.map aB1.long).sum <= aB7 d.fs
theorem dH7 {k : Nat} (h : k <= 90) : rbD k <= 1260000000 := cK4 h
theorem cX7 {k : Nat} (h : k <= 90) : rbE k <= 94371840 := cK5 h
theorem RI.pre {j : JnP} {d : DkD} {k : Nat} (h : RI j d) (hb : RB k j d) (hk : k <= 90) : bS1 j d := by
 have h1 := hb.dk.sz;have h2 := dH7 hk;have h3 := cX7 hk;have h4 := hb.len;refine ⟨by omega, fun s hs => (h.segs.seg s hs).2.1, fun s hs => ?_, fun s hs => ?_, h.sum⟩
 ·have := hb.ent s hs
  have := h.long_le s hs;omega
 have h5 := (h.segs.seg s hs).1.ends_le;have h6 := h.long_le s hs;refine ⟨h5.1, fun n hn => ?_⟩;have := h5.2 n hn;omega
theorem cN0 {e : aF9} (ht : -9223372036854775808 <= e.tm ∧ e.tm <= 9223372036854775807) (hk : -9223372036854775808 <= e.kd ∧ e.kd <= 9223372036854775807) : (aC9 e).length <= e.b.length + 60 := by
 unfold aC9;have h1 := aI7 (z := [e.tm, e.kd]) (by
  intro n hn;simp only [List.mem_cons, List.not_mem_nil, or_false] at hn;rcases hn with rfl | rfl
  ·exact ht
  exact hk)
 have h2 : (bP5 e.b).length <= e.b.length + 10 ∧ (bP5 e.b).length <= 65545 := by
  unfold bP5;split
  ·simp
  have := aM0 e.b.length (by omega);rw [lT];omega
 simp at h1
 have h3 : (aH1 [e.tm, e.kd] ++ bP5 e.b).length <= e.b.length + 30 ∧ (aH1 [e.tm, e.kd] ++ bP5 e.b).length <= 70000 := by rw [lT]; omega
 rw [bW6 (by omega), lT, lT, Crc.four_length];have := aM0 (aH1 [e.tm, e.kd] ++ bP5 e.b).length (by omega);omega
theorem bD0 : ∀ (l : List aF9), (∀ e ∈ l, (-9223372036854775808 <= e.tm ∧ e.tm <= 9223372036854775807) ∧ (-9223372036854775808 <= e.kd ∧ e.kd <= 9223372036854775807)) -> (l.map aC9).flatten.length <= (l.map fun e => e.b.length + 5).sum * 12
 | [], _ => by simp
 | e :: r, h => by
  have h1 := bD0 r (fun x hx => h x (List.mem_cons_of_mem _ hx));have h2 := h e (List.mem_cons_self ..);have h3 := cN0 h2.1 h2.2;simp only [mG, List.flatten_cons, lT, List.sum_cons];omega
end
section
open Oct
def hdP (f t : Int) : List UInt8 := cC2 f ++ aH1 [t]
def enP (e : aF9) : List UInt8 := aH1 [e.tm, e.kd] ++ bP5 e.b
def aM1 (s : aB1) : List (List UInt8) := hdP s.first s.term :: s.l.map enP
def aI2 : Int -> List (List UInt8) -> List Int
 | _, [] => []
 | a, p :: r => (a + (aE1 p).length) :: aI2 (a + (aE1 p).length) r
theorem bX7 : ∀ (a : Int) (ps : List (List UInt8)), (aI2 a ps).length = ps.length
 | _, [] => rfl
 | a, p :: r => by rw [aI2, mC, mC, bX7]
theorem aW6 : ∀ (n : Nat) (a : Int) (ps : List (List UInt8)), (aI2 a ps).take n = aI2 a (ps.take n)
 | 0, _, _ => by simp [aI2]
 | n + 1, _, [] => by simp [aI2]
 | n + 1, a, p :: r => by rw [aI2, List.take_succ_cons, List.take_succ_cons, aI2, aW6 n]
theorem bE7 : ∀ (a : Int) (ps qs : List (List UInt8)), aI2 a (ps ++ qs) = aI2 a ps ++ aI2 (a + ((cat ps).length : Int)) qs
 | a, [], qs => by simp [aI2, bC0]
 | a, p :: r, qs => by
  rw [List.cons_append, aI2, aI2, bE7, aN1, lT, List.cons_append];have : a + ((aE1 p).length : Int) + ((cat r).length : Int) = a + (((aE1 p).length + (cat r).length : Nat) : Int) := by omega
  rw [this]
theorem bC3 : ∀ (a : Int) (ps : List (List UInt8)), ps ≠ [] -> (aI2 a ps).getLastD 0 = a + ((cat ps).length : Int)
 | a, [], h => absurd rfl h
 | a, [p], _ => by simp [aI2, aN1, bC0]
 | a, p :: q :: r, _ => by
  rw [aI2, aN1, lT];have h := bC3 (a + (aE1 p).length) (q :: r) (by simp);rw [show ((a + ((aE1 p).length : Int)) :: aI2 (a + ((aE1 p).length : Int)) (q :: r)).getLastD 0 = (aI2 (a + ((aE1 p).length : Int)) (q :: r)).getLastD 0 by
   rw [aI2];simp [List.getLastD]]
  rw [h];omega
structure dH9 (e : aF9) : Prop where
 tm : 0 <= e.tm ∧ e.tm <= 9223372036854775807
 kd : 0 <= e.kd ∧ e.kd <= 9223372036854775807
 b : e.b.length <= 65535
structure aT6 (s : aB1) : Prop where
 first : 1 <= s.first ∧ s.first < aD6
 term : 0 <= s.term ∧ s.term <= 9223372036854775807
 ents : ∀ e ∈ s.l, dH9 e
 ixs : ∀ i (h : i < s.l.length), s.l[i].ix = s.first + i
 top : s.first + s.l.length <= aD6
 ends : s.ends = aI2 0 (aM1 s)
theorem aW1 {n : Int} (h : 0 <= n ∧ n <= 9223372036854775807) (r : List UInt8) (m : Nat) : aD9 (m + 1) (enc (fold1 n) ++ r) = (n :: (aD9 m r).1, (aD9 m r).2) := by
 have h2 := bH0 n ⟨by omega, h.2⟩;have ht : aB9 maxU (enc (fold1 n) ++ r) = (fold1 n, (enc (fold1 n)).length, 0) := bN3 (by unfold maxU; omega) r;have hu : aI4 (fold1 n) = n := cG8 n;rw [aD9, ht];simp only [hu];rw [if_neg (by rintro (h3 | h3); exact h3 rfl; omega), List.drop_left]
theorem dC0 {f t : Int} (hf : 1 <= f ∧ f < aD6) (ht : 0 <= t ∧ t <= 9223372036854775807) : aK1 (hdP f t) = some (f, t) := by
 unfold aD6 at hf;have he : cC2 f = enc f.toNat := if_neg (by omega);have hn : aH1 [t] = enc (fold1 t) ++ [] := by unfold aH1; simp
 have h1 : aB9 maxI (hdP f t) = (f.toNat, (enc f.toNat).length, 0) := by unfold hdP; rw [he]; exact bN3 (by unfold maxI; omega) _
 have h2 : (hdP f t).drop (enc f.toNat).length = enc (fold1 t) ++ [] := by unfold hdP; rw [he, List.drop_left, hn]
 have h3 : aD9 1 (enc (fold1 t) ++ []) = ([t], some []) := by rw [aW1 ht]; rfl
 unfold aK1;rw [h1];simp only [h2, h3];rw [if_neg (by unfold aD6; rintro (h4 | h4 | h4); exact h4 rfl; omega; omega)];rw [show ((f.toNat : Nat) : Int) = f by omega]
theorem dA9 {e : aF9} (h : dH9 e) {a : Int} (ha : a + 1 = e.ix) (h1 : e.ix < aD6) : aH9 (enP e) a = some e := by
 have hn : enP e = enc (fold1 e.tm) ++ (enc (fold1 e.kd) ++ bP5 e.b) := by unfold enP aH1; simp
 have h2 : aD9 2 (enP e) = ([e.tm, e.kd], some (bP5 e.b)) := by
  rw [hn, aW1 h.tm, aW1 h.kd]
  rfl
 have hb := h.b;have h3 : aH5 (bP5 e.b) = (e.b, (bP5 e.b).length, 0) := by
  have h4 : bP5 e.b = enc e.b.length ++ e.b := if_neg (by omega);have := cZ1 e.b [] hb;rw [List.append_nil] at this;rw [h4];exact this
 unfold aH9;rw [h2];simp only [h3];rw [if_neg (by rintro (h4 | h4 | h4); exact h4 rfl; exact h4 rfl; omega)];obtain ⟨ix, tm, kd, b⟩ := e;simp only at ha;rw [ha]
theorem cT7 {f t : Int} (hf : f <= 9223372036854775807) (ht : -9223372036854775808 <= t ∧ t <= 9223372036854775807) : (hdP f t).length <= 20 := by
 have h1 : (cC2 f).length <= 10 := by
  unfold cC2;split
  ·simp
  exact aM0 _ (by omega)
 have h2 : (aH1 [t]).length <= 10 := aI7 (z := [t]) (by intro n hn; obtain rfl := List.mem_singleton.1 hn; exact ht);unfold hdP;rw [lT];omega
theorem cD8 {e : aF9} (h : dH9 e) : (enP e).length <= 70000 := by
 have h1 := aI7 (z := [e.tm, e.kd]) (by
  intro n hn;simp only [List.mem_cons, List.not_mem_nil, or_false] at hn;rcases hn with rfl | rfl
  ·exact ⟨by have := h.tm; omega, h.tm.2⟩
  exact ⟨by have := h.kd; omega, h.kd.2⟩)
 have h2 : (bP5 e.b).length <= 65545 := by
  unfold bP5;split
  ·simp
  have := aM0 e.b.length (by have := h.b; omega);have := h.b;rw [lT];omega
 simp at h1
 unfold enP;rw [lT];omega
theorem cJ6 {f t : Int} (hf : f <= 9223372036854775807) (ht : -9223372036854775808 <= t ∧ t <= 9223372036854775807) : aE4 f t = aE1 (hdP f t) := aK9 (by have := cT7 hf ht; unfold hdP at this; omega)
theorem cT9 {e : aF9} (h : dH9 e) : aC9 e = aE1 (enP e) := aK9 (by have := cD8 h; unfold enP at this; omega)
theorem aT6.pays_len {s : aB1} (h : aT6 s) : ∀ p ∈ aM1 s, p.length <= 1048576 := fun p hp => by
 rcases List.mem_cons.1 hp with rfl | hp
 ·have := h.first
  have := h.term;unfold aD6 at *;have := cT7 (f := s.first) (t := s.term) (by omega) (by omega);omega
 obtain ⟨e, he, rfl⟩ := List.mem_map.1 hp;have := cD8 (h.ents e he);omega
theorem dJ5 (f t k : Int) (l : List aF9) (ends : List Int) (hi : ∀ i (h : i < l.length), l[i].ix = f + i) : (aB1.last ⟨k, f, t, l, ends⟩).1 = f + l.length - 1 := by
 rcases mJ l with rfl | ⟨r, x, rfl⟩
 ·simp [aB1.last]
 rw [mA] at hi ⊢;have h1 := hi r.length (by simp);simp only [List.getElem_concat_length] at h1;unfold aB1.last;simp only [List.getLast?_append, List.getLast?_singleton, Option.some_or, lT, List.length_singleton];rw [h1];omega
theorem bB0 : ∀ (es : List aF9) (s0 : aB1) (a : Int), (∀ e ∈ es, dH9 e) -> (∀ i (h : i < es.length), es[i].ix = s0.last.1 + 1 + i) -> s0.last.1 + 1 + es.length <= aD6 -> aK2 (es.map enP) a s0 = some { s0 with l := s0.l ++ es, ends := s0.ends ++ aI2 a (es.map enP) }
 | [], s0, a, _, _, _ => by simp [aK2, aI2]
 | e :: r, s0, a, hc, hi, ht => by
  have h0 : e.ix = s0.last.1 + 1 := by have := hi 0 (by simp); simpa using this
  rw [mC] at ht;have h1 : aH9 (enP e) s0.last.1 = some e := dA9 (hc e List.mem_cons_self) (by omega) (by omega);have h2 : aF2 (enP e) = aE1 (enP e) := aK9 (by have := cD8 (hc e List.mem_cons_self); omega);rw [mG, aK2, h1];simp only [h2];have hlast : (aB1.last { s0 with l := s0.l ++ [e], ends := s0.ends ++ [a + ((aE1 (enP e)).length : Int)] }).1 = e.ix := by
   unfold aB1.last;simp
  rw [bB0 r _ _ (fun x hx => hc x (List.mem_cons_of_mem _ hx)) (fun i h => by
   have := hi (i + 1) (by simp; omega);rw [List.getElem_cons_succ] at this;rw [this, hlast, h0];omega) (by rw [hlast]; omega)]
  simp [aI2]
def bS5 (s : aB1) (k : Int) : Nat -> aB1
 | 0 => ⟨k, 0, 0, [], []⟩
 | m + 1 => ⟨k, s.first, s.term, s.l.take m, s.ends.take (m + 1)⟩
theorem bF7 {s : aB1} (h : aT6 s) (k : Int) {b : List UInt8} {W u : Nat} {e : Int} (hr : aH6 b = ((aM1 s).take W, u, e)) : aD0 k b = some (bS5 s k W, decide (e ≠ 0)) := by
 cases W with
 | zero =>
  unfold aD0;rw [hr]
  rfl
 | succ m =>
  have h1 : (aM1 s).take (m + 1) = hdP s.first s.term :: (s.l.take m).map enP := by unfold aM1; rw [List.take_succ_cons, List.map_take]
  have hh : aK1 (hdP s.first s.term) = some (s.first, s.term) := dC0 h.first h.term;have hp : aF2 (hdP s.first s.term) = aE1 (hdP s.first s.term) := aK9 (by have := h.pays_len _ (List.mem_cons_self); omega);have a7 : ∀ ends : List Int, (aB1.last ⟨k, s.first, s.term, [], ends⟩).1 = s.first - 1 := fun _ => rfl
  have a8 := h.top;have a9 : (s.l.take m).length <= s.l.length := by rw [lV]; omega
  have h2 := bB0 (s.l.take m) ⟨k, s.first, s.term, [], [((aE1 (hdP s.first s.term)).length : Int)]⟩ ((aE1 (hdP s.first s.term)).length : Int) (fun e he => h.ents e (List.mem_of_mem_take he)) (fun i hi => by
   rw [List.getElem_take, h.ixs i (by omega), a7];omega) (by rw [a7]; omega)
  unfold aD0;rw [hr, h1];simp only [hh, hp, h2, Option.map_some];have he : [((aE1 (hdP s.first s.term)).length : Int)] ++ aI2 ((aE1 (hdP s.first s.term)).length : Int) ((s.l.take m).map enP) = s.ends.take (m + 1) := by
   rw [h.ends, aW6, h1, aI2, Int.zero_add]
   rfl
  rw [he, List.nil_append]
  rfl
def aC8 (s : aB1) : List UInt8 := cat (aM1 s)
theorem cI3 {s : aB1} (h : aT6 s) : bS5 s s.k (aM1 s).length = s := by
 have h1 : (aM1 s).length = s.l.length + 1 := by unfold aM1; simp
 have h2 : s.ends.length = s.l.length + 1 := by rw [h.ends, bX7, h1]
 rw [h1];show (⟨s.k, s.first, s.term, s.l.take s.l.length, s.ends.take (s.l.length + 1)⟩ : aB1) = s
 rw [List.take_of_length_le (lR _), List.take_of_length_le (by omega)]
theorem bF6 {s : aB1} (h : aT6 s) : aD0 s.k (aC8 s) = some (s, false) := by
 have h1 := dE6 (aM1 s) h.pays_len;rw [show cat (aM1 s) = aC8 s from rfl] at h1;have h2 := bF7 h s.k (W := (aM1 s).length) (by rw [h1, List.take_of_length_le (lR _)]);rw [h2, cI3 h]
 rfl
theorem dG8 (ps : List (List UInt8)) : ∀ {n : Nat}, n <= (cat ps).length -> ∃ W, W <= ps.length ∧ (cat (ps.take W)).length <= n ∧ (W = ps.length ∨ n < (cat (ps.take (W + 1))).length) := by
 intro n hn;have key : ∀ k, k <= ps.length -> (cat (ps.take k)).length <= n -> ∃ W, W <= ps.length ∧ (cat (ps.take W)).length <= n ∧ (W = ps.length ∨ n < (cat (ps.take (W + 1))).length) := by
  intro k hk;induction hm : ps.length - k generalizing k with
  | zero => intro h; exact ⟨k, hk, h, .inl (by omega)⟩
  | succ m ih =>
   intro h;by_cases h2 : n < (cat (ps.take (k + 1))).length
   ·exact ⟨k, hk, h, .inr h2⟩
   exact ih (k + 1) (by omega) (by omega) (by omega)
 exact key 0 (by omega) (by simp [bC0])
theorem bZ8 {s : aB1} (h : aT6 s) (k : Int) {n : Nat} (hn : n <= (aC8 s).length) : ∃ W torn, W <= (aM1 s).length ∧ (cat ((aM1 s).take W)).length <= n ∧ (W = (aM1 s).length ∨ n < (cat ((aM1 s).take (W + 1))).length) ∧ aD0 k ((aC8 s).take n) = some (bS5 s k W, torn) ∧ (torn = false ↔ (cat ((aM1 s).take W)).length = n) := by
 obtain ⟨W, h1, h2, h3⟩ := dG8 (aM1 s) hn;obtain ⟨e, h4, h5⟩ := cY2 (aM1 s) h.pays_len n W hn h1 h2 h3;refine ⟨W, decide (e ≠ 0), h1, h2, h3, bF7 h k h4, ?_⟩;rw [<- h5];simp
theorem aT6.long {s : aB1} (h : aT6 s) : s.long = ((aC8 s).length : Int) := by
 unfold aB1.long;rw [h.ends, bC3 0 _ (by unfold aM1; simp)];unfold aC8;omega
theorem cR8 {s : aB1} (h : aT6 s) (k : Int) {W : Nat} (hW : W <= (aM1 s).length) : (bS5 s k W).long = ((cat ((aM1 s).take W)).length : Int) := by
 cases W with
 | zero => rfl
 | succ m =>
  unfold bS5 aB1.long;simp only;rw [h.ends, aW6, bC3 0 _ (by unfold aM1; simp)];omega
theorem bI9 {s : aB1} (h : aT6 s) (k : Int) (m : Nat) : aT6 (bS5 s k (m + 1)) := by
 have hl : (s.l.take m).length <= s.l.length := by rw [lV]; omega
 refine ⟨h.first, h.term, fun e he => h.ents e (List.mem_of_mem_take he), fun i hi => ?_, by have := h.top; show s.first + ((s.l.take m).length : Int) <= _; omega, ?_⟩
 ·have a7 : i < (s.l.take m).length := hi
  have h1 : ((s.l.take m)[i]'(a7)).ix = s.first + i := by
   rw [List.getElem_take];exact h.ixs i (by omega)
  exact h1
 show s.ends.take (m + 1) = aI2 0 (hdP s.first s.term :: (s.l.take m).map enP)
 rw [h.ends, aW6];unfold aM1;rw [List.take_succ_cons, List.map_take]
theorem aT6.lastIx {s : aB1} (h : aT6 s) : s.last.1 = s.first + s.l.length - 1 := by
 obtain ⟨k, f, t, l, ends⟩ := s;exact dJ5 f t k l ends h.ixs
end
section
open Go.RowKit Go.Maps Oct
theorem cB1 (n : Nm) : (str n).data.toList = n := by simp [str]
theorem aY4.longB {w : World} {F : Nat -> Prop} {ad : Addr} {s : aB1} (h : aY4 w F ad s) : 0 <= s.long ∧ s.long <= 4611686018427387904 := by
 unfold aB1.long;rcases mJ s.ends with h0 | ⟨r, x, hr⟩
 ·rw [h0]; simp
 rw [mA] at hr;have := h.rd.num.ends x (by rw [hr]; simp);rw [hr]
 simpa using this
section
variable {w : World} {base g m gj : Nat} {p : PWD} {room : Int} {es : List (Nm × FE)}
theorem dJ4 (h : aB0 w base g m p room es) (n : Nm) (hn : n.length <= 1000) (b1 b2 : Nat) (c1 : w.cell? ⟨b1, 0, none⟩ = some (.pointer (some ⟨gj, 0, none⟩))) (c2 : w.cell? ⟨b2, 0, none⟩ = some (.string (str n))) (c3 : w.cell? ⟨gj, 3, none⟩ = some (.pointer (some ⟨g, 0, none⟩))) (hf : ∀ k, k = b1 ∨ k = b2 ∨ k = gj -> ¬ aA8 g m es k) :
  Calls Tryz.prog 96 #[.pointer (some ⟨b1, 0, none⟩), .pointer (some ⟨b2, 0, none⟩)] w fun e w' => e = .returned (.int .i64 ((aC3.rm n).run (aD2 p room es)).1) ∧ aB4 w base g m es ((aC3.rm n).run (aD2 p room es)).2 w' := by
 have HC := qZ (cD6 (h.below (aA4 (lS _ w) 1)) (str n) (by rw [aP0]; omega));rw [cB1] at HC;obtain ⟨R, hR⟩ : ∃ R, R = (aC3.rm n).run (aD2 p room es) := ⟨_, rfl⟩
 change Hid (Calls _ _ _ _ fun e w' => e = .returned (.int .i64 ((aC3.rm n).run (aD2 p room es)).1) ∧ aB4 _ base g m es ((aC3.rm n).run (aD2 p room es)).2 w') at HC;rw [<- hR] at HC ⊢;have HF := qZ hf;have HB := qZ (Fr.of_below (aA8 g m es) (aA4 (lS _ w) 1));have a9 := mI w ⟨b1, 0, none⟩ c1;have b8 := mI w ⟨b2, 0, none⟩ c2;have d8 := mI w ⟨gj, 3, none⟩ c3;clear hR h hf;go_enter Tryz.func96, Tryz.ntmps96
 go_wp2_with fail
 refine wp_region_held_drew (S := fun W => W.cell? ⟨b1, 0, none⟩ = some (.pointer (some ⟨gj, 0, none⟩)) ∧ W.cell? ⟨b2, 0, none⟩ = some (.string (str n)) ∧ W.cell? ⟨gj, 3, none⟩ = some (.pointer (some ⟨g, 0, none⟩)) ∧ True) (by kernel_rfl) ⟨c1, c2, c3, trivial⟩ (fun hHeld => ?_);refine zT 0 (k := ?_);refine zT 1 (k := ?_);refine zT 2 (k := ?_);refine zT 3 (k := ?_);refine zT 4 (k := ?_);simp only [zA, zB, zF, zG, zC, zD, zE];refine zV 5 (k := fun K hK => ?_);simp only [zA, zB];go_simp;refine (show Calls _ _ _ w.drew _ from HC.out).mono ?_;rintro e w1 ⟨rfl, hT⟩;have a8 := aB4.step HB.out (fun k hk => .inl hk) hT;have HT := qZ a8;have a7 : Fr (aA8 g m es) w w1 := by
  obtain ⟨_, _, _, h3, _⟩ := HT.out;exact h3
 have d1 : w1.cell? ⟨b1, 0, none⟩ = some (.pointer (some ⟨gj, 0, none⟩)) := (World.cell?_of_block (a7.block b1 a9 (HF.out _ (.inl rfl)))).trans c1;have d2 : w1.cell? ⟨b2, 0, none⟩ = some (.string (str n)) := (World.cell?_of_block (a7.block b2 b8 (HF.out _ (.inr (.inl rfl))))).trans c2;have d3 : w1.cell? ⟨gj, 3, none⟩ = some (.pointer (some ⟨g, 0, none⟩)) := (World.cell?_of_block (a7.block gj d8 (HF.out _ (.inr (.inr rfl))))).trans c3;clear hT a8 a7 HC;refine hK.out _ _ ⟨d1, d2, d3, trivial⟩ (fun hHeld => ?_);clear hK K;try simp only [zF, zG, zC, zD, zE]
 refine zT 6 (k := ?_);simp only [zA, zB, zF, zG, zC, zD, zE];refine wpAnyH_done (by kernel_rfl) ?_ _;clear c1 c2 c3 d1 d2 d3;go_wp2_with fail
 go_ret
 exact ⟨rfl, HT.out⟩
theorem cV3 (h : aB0 w base g m p room es) (n : Nm) (hn : n.length <= 1000) (b1 b2 : Nat) (c1 : w.cell? ⟨b1, 0, none⟩ = some (.pointer (some ⟨gj, 0, none⟩))) (c2 : w.cell? ⟨b2, 0, none⟩ = some (.string (str n))) (c3 : w.cell? ⟨gj, 3, none⟩ = some (.pointer (some ⟨g, 0, none⟩))) (hf : ∀ k, k = b1 ∨ k = b2 ∨ k = gj -> ¬ aA8 g m es k) :
  Calls Tryz.prog 109 #[.pointer (some ⟨b1, 0, none⟩), .pointer (some ⟨b2, 0, none⟩)] w fun e w' => e = .returned (.int .i64 ((aC3.sync n).run (aD2 p room es)).1) ∧ aB4 w base g m es ((aC3.sync n).run (aD2 p room es)).2 w' := by
 have HC := qZ (cS4 (h.below (aA4 (lS _ w) 1)) (str n) (by rw [aP0]; omega));rw [cB1] at HC;obtain ⟨R, hR⟩ : ∃ R, R = (aC3.sync n).run (aD2 p room es) := ⟨_, rfl⟩
 change Hid (Calls _ _ _ _ fun e w' => e = .returned (.int .i64 ((aC3.sync n).run (aD2 p room es)).1) ∧ aB4 _ base g m es ((aC3.sync n).run (aD2 p room es)).2 w') at HC;rw [<- hR] at HC ⊢;have HF := qZ hf;have HB := qZ (Fr.of_below (aA8 g m es) (aA4 (lS _ w) 1));have a9 := mI w ⟨b1, 0, none⟩ c1;have b8 := mI w ⟨b2, 0, none⟩ c2;have d8 := mI w ⟨gj, 3, none⟩ c3;clear hR h hf;go_enter Tryz.func109, Tryz.ntmps109
 go_wp2_with fail
 refine wp_region_held_drew (S := fun W => W.cell? ⟨b1, 0, none⟩ = some (.pointer (some ⟨gj, 0, none⟩)) ∧ W.cell? ⟨b2, 0, none⟩ = some (.string (str n)) ∧ W.cell? ⟨gj, 3, none⟩ = some (.pointer (some ⟨g, 0, none⟩)) ∧ True) (by kernel_rfl) ⟨c1, c2, c3, trivial⟩ (fun hHeld => ?_);refine zT 0 (k := ?_);refine zT 1 (k := ?_);refine zT 2 (k := ?_);refine zT 3 (k := ?_);refine zT 4 (k := ?_);simp only [zA, zB, zF, zG, zC, zD, zE];refine zV 5 (k := fun K hK => ?_);simp only [zA, zB];go_simp;refine (show Calls _ _ _ w.drew _ from HC.out).mono ?_;rintro e w1 ⟨rfl, hT⟩;have a8 := aB4.step HB.out (fun k hk => .inl hk) hT;have HT := qZ a8;have a7 : Fr (aA8 g m es) w w1 := by
  obtain ⟨_, _, _, h3, _⟩ := HT.out;exact h3
 have d1 : w1.cell? ⟨b1, 0, none⟩ = some (.pointer (some ⟨gj, 0, none⟩)) := (World.cell?_of_block (a7.block b1 a9 (HF.out _ (.inl rfl)))).trans c1;have d2 : w1.cell? ⟨b2, 0, none⟩ = some (.string (str n)) := (World.cell?_of_block (a7.block b2 b8 (HF.out _ (.inr (.inl rfl))))).trans c2;have d3 : w1.cell? ⟨gj, 3, none⟩ = some (.pointer (some ⟨g, 0, none⟩)) := (World.cell?_of_block (a7.block gj d8 (HF.out _ (.inr (.inr rfl))))).trans c3;clear hT a8 a7 HC;refine hK.out _ _ ⟨d1, d2, d3, trivial⟩ (fun hHeld => ?_);clear hK K;try simp only [zF, zG, zC, zD, zE]
 refine zT 6 (k := ?_);simp only [zA, zB, zF, zG, zC, zD, zE];refine wpAnyH_done (by kernel_rfl) ?_ _;clear c1 c2 c3 d1 d2 d3;go_wp2_with fail
 go_ret
 exact ⟨rfl, HT.out⟩
theorem dC6 (h : aB0 w base g m p room es) (n : Nm) (hn : n.length <= 1000) (l : List UInt8) (A : Option Addr) (c b1 b2 b3 : Nat) (c1 : w.cell? ⟨b1, 0, none⟩ = some (.pointer (some ⟨gj, 0, none⟩))) (c2 : w.cell? ⟨b2, 0, none⟩ = some (.string (str n))) (c4 : w.cell? ⟨b3, 0, none⟩ = some (.slice A l.length c)) (c3 : w.cell? ⟨gj, 3, none⟩ = some (.pointer (some ⟨g, 0, none⟩))) (hf : ∀ k, k = b1 ∨ k = b2 ∨ k = b3 ∨ k = gj -> ¬ aA8 g m es k)
  (hr : Rd w w.heap.size A (cells l)) (g9 : l.length <= c) (hl : l.length <= 274877906944) (g7 : ∀ q ∈ es, q.2.f.b.length <= 549755813888) (g8 : aB7 (sec FE.f es) <= 4611686018427387904) (g6 : es.length < 4398046511104) :
  Calls Tryz.prog 117 #[.pointer (some ⟨b1, 0, none⟩), .pointer (some ⟨b2, 0, none⟩), .pointer (some ⟨b3, 0, none⟩)] w fun e w' => e = .returned (.int .i64 ((aC3.app n l).run (aD2 p room es)).1) ∧ aB4 w base g m es ((aC3.app n l).run (aD2 p room es)).2 w' := by
 have a7 : Below w.heap.size w (w.drew.alloc (.cells #[.slice A l.length c] 34)) := ((lS _ w).drew).alloc (by simp) _;have f8 : Rd (w.drew.alloc (.cells #[.slice A l.length c] 34)) (w.drew.alloc (.cells #[.slice A l.length c] 34)).heap.size (some ⟨w.heap.size, 0, none⟩) ([⟨A, l, c⟩].map Row.val) := by
  have h1 := aG4 w.drew 34 [.slice A l.length c];exact (show Rd _ _ _ _ from h1).more (by simp)
 have f9 : RRd (w.drew.alloc (.cells #[.slice A l.length c] 34)) (w.drew.alloc (.cells #[.slice A l.length c] 34)).heap.size [⟨A, l, c⟩] := fun q hq => by
  obtain rfl := List.mem_singleton.1 hq;exact ⟨(hr.below a7).more a7.size, by show l.length <= _; omega⟩
 have HC := qZ (cD5 (h.below a7) (str n) (by rw [aP0]; omega) (some ⟨w.heap.size, 0, none⟩) [⟨A, l, c⟩] 1 f8 f9 (by simp) (by simp) (by simp [aG6]; omega) g7 g8 g6);rw [cB1] at HC;obtain ⟨R, hR⟩ : ∃ R, R = (aC3.app n l).run (aD2 p room es) := ⟨_, rfl⟩
 change Hid (Calls _ _ _ _ fun e w' => e = .returned (.int .i64 ((aC3.app n l).run (aD2 p room es)).1) ∧ aB4 _ base g m es ((aC3.app n l).run (aD2 p room es)).2 w') at HC;rw [<- hR] at HC ⊢;have HF := qZ hf;have HB := qZ (Fr.of_below (aA8 g m es) a7);have a9 := mI w ⟨b1, 0, none⟩ c1;have b8 := mI w ⟨b2, 0, none⟩ c2;have e9 := mI w ⟨gj, 3, none⟩ c3;have d8 := mI w ⟨b3, 0, none⟩ c4;have e1 : (w.drew.alloc (.cells #[.slice A l.length c] 34)).cell? ⟨b1, 0, none⟩ = some (.pointer (some ⟨gj, 0, none⟩)) := (a7.cell (p := ⟨b1, 0, none⟩) a9).trans c1;have e2 : (w.drew.alloc (.cells #[.slice A l.length c] 34)).cell? ⟨b2, 0, none⟩ = some (.string (str n)) := (a7.cell (p := ⟨b2, 0, none⟩) b8).trans c2;have e3 : (w.drew.alloc (.cells #[.slice A l.length c] 34)).cell? ⟨gj, 3, none⟩ = some (.pointer (some ⟨g, 0, none⟩)) := (a7.cell (p := ⟨gj, 3, none⟩) e9).trans c3;have e4 : (w.drew.alloc (.cells #[.slice A l.length c] 34)).cell? ⟨b3, 0, none⟩ = some (.slice A l.length c) := (a7.cell (p := ⟨b3, 0, none⟩) d8).trans c4;clear hR h hf f8 f9 hr a7;go_enter Tryz.func117, Tryz.ntmps117
 go_wp2_with fail
 refine wp_region_held_drew (S := fun W => W.cell? ⟨b1, 0, none⟩ = some (.pointer (some ⟨gj, 0, none⟩)) ∧ W.cell? ⟨b2, 0, none⟩ = some (.string (str n)) ∧ W.cell? ⟨gj, 3, none⟩ = some (.pointer (some ⟨g, 0, none⟩)) ∧ W.cell? ⟨b3, 0, none⟩ = some (.slice A l.length c)) (by kernel_rfl) ⟨c1, c2, c3, c4⟩ (fun hHeld => ?_);refine zT 0 (k := ?_);refine zT 1 (k := ?_);refine zT 2 (k := ?_);refine zT 3 (k := ?_);refine zT 4 (k := ?_);refine zT 5 (k := ?_);simp only [zA, zB, zF, zG, zC, zD, zE];refine zV 6 (k := fun K hK => ?_);simp only [zA, zB];go_simp;refine hK.out _ _ ⟨e1, e2, e3, e4⟩ (fun hHeld => ?_);clear hK K;try simp only [zF, zG, zC, zD, zE]
 refine zV 7 (k := fun K hK => ?_);simp only [zA, zB];go_simp;refine HC.out.mono ?_;rintro e w1 ⟨rfl, hT⟩;have f7 := aB4.step HB.out (fun k hk => .inl hk) hT;have HT := qZ f7;have a8 : Fr (aA8 g m es) w w1 := by
  obtain ⟨_, _, _, h3, _⟩ := HT.out;exact h3
 have d1 : w1.cell? ⟨b1, 0, none⟩ = some (.pointer (some ⟨gj, 0, none⟩)) := (World.cell?_of_block (a8.block b1 a9 (HF.out _ (.inl rfl)))).trans c1;have d2 : w1.cell? ⟨b2, 0, none⟩ = some (.string (str n)) := (World.cell?_of_block (a8.block b2 b8 (HF.out _ (.inr (.inl rfl))))).trans c2;have d3 : w1.cell? ⟨gj, 3, none⟩ = some (.pointer (some ⟨g, 0, none⟩)) := (World.cell?_of_block (a8.block gj e9 (HF.out _ (.inr (.inr (.inr rfl)))))).trans c3;have d4 : w1.cell? ⟨b3, 0, none⟩ = some (.slice A l.length c) := (World.cell?_of_block (a8.block b3 d8 (HF.out _ (.inr (.inr (.inl rfl)))))).trans c4;clear hT f7 a8 HC e1 e2 e3 e4;refine hK.out _ _ ⟨d1, d2, d3, d4⟩ (fun hHeld => ?_);clear hK K;try simp only [zF, zG, zC, zD, zE]
 refine zT 8 (k := ?_);simp only [zA, zB, zF, zG, zC, zD, zE];refine wpAnyH_done (by kernel_rfl) ?_ _;clear c1 c2 c3 c4 d1 d2 d3 d4;go_wp2_with fail
 go_ret
 exact ⟨rfl, HT.out⟩
theorem dC7 (h : aB0 w base g m p room es) (b1 : Nat) (c1 : w.cell? ⟨b1, 0, none⟩ = some (.pointer (some ⟨gj, 0, none⟩))) (c3 : w.cell? ⟨gj, 3, none⟩ = some (.pointer (some ⟨g, 0, none⟩))) (a7 : es.length < 4398046511104) :
  Calls Tryz.prog 70 #[.pointer (some ⟨b1, 0, none⟩)] w fun e w' => e = .returned (.int .i64 (aC3.ren.run (aD2 p room es)).1) ∧ aB4 w base g m es (aC3.ren.run (aD2 p room es)).2 w' := by
 have HC := qZ (cD7 h ⟨#[109, 101, 116, 97, 46, 110, 101, 119]⟩ ⟨#[109, 101, 116, 97]⟩ (by show 8 <= _; omega) (by show 4 <= _; omega) a7);obtain ⟨R, hR⟩ : ∃ R, R = aC3.ren.run (aD2 p room es) := ⟨_, rfl⟩
 change Hid (Calls _ _ _ _ fun e w' => e = .returned (.int .i64 (aC3.ren.run (aD2 p room es)).1) ∧ aB4 _ base g m es (aC3.ren.run (aD2 p room es)).2 w') at HC;rw [<- hR] at HC ⊢;clear hR h;go_enter Tryz.func70, Tryz.ntmps70
 go_wp2_with fail
 refine HC.out.mono ?_;rintro e w1 ⟨rfl, hT⟩;have HT := qZ hT;clear hT c1 c3;go_wp2_with fail
 go_ret
 exact ⟨rfl, HT.out⟩
theorem cU3 (h : aB0 w base g m p room es) {E : Nat -> Prop} {s : aB1} (b1 b13 : Nat) (hM : aY4 w E ⟨b13, 0, none⟩ s) (hE : ∀ k, E k -> k < w.heap.size) (c1 : w.cell? ⟨b1, 0, none⟩ = some (.pointer (some ⟨g, 0, none⟩))) (hf : ¬ aA8 g m es b1) (ht : Tab w) :
  Calls Tryz.prog 54 #[.pointer (some ⟨b1, 0, none⟩), .pointer (some ⟨b13, 0, none⟩)] w fun e w' => e = .returned (.int .i64 ((aC3.cut (aA1 s.k) s.long).run (aD2 p room es)).1) ∧ aB4 w base g m es ((aC3.cut (aA1 s.k) s.long).run (aD2 p room es)).2 w' := by
 have i1 := hM.longB;have g9 := hM.rd.num.k;have i2 := aJ8 s.k g9;have b8 := qZ ((hM.keep (w' := w.drew) (lR _) (fun _ _ => rfl)).nameJ (ht.below (aA4 (lS _ w) 1)));have a9 := qZ (fun (w2 : World) (hb : Below w.heap.size w w2) => (hM.keep hb.size (fun k hk => hb.block k (hE k hk))).long);have a7 := qZ (fun (w2 : World) (hb : Below w.heap.size w w2) => bX0 (h.below hb) (str (aA1 s.k)) (by rw [aP0]; omega) s.long (by omega));obtain ⟨n, hn⟩ : ∃ n, n = aA1 s.k := ⟨_, rfl⟩
 obtain ⟨z, hz⟩ : ∃ n, n = s.long := ⟨_, rfl⟩
 rw [<- hn] at b8 a7 ⊢;rw [<- hz] at a9 a7 ⊢;rw [cB1] at a7;obtain ⟨R, hR⟩ : ∃ R, R = (aC3.cut n z).run (aD2 p room es) := ⟨_, rfl⟩
 change Hid (∀ (w2 : World) (hb : Below w.heap.size w w2), Calls _ _ _ _ fun e w' => e = .returned (.int .i64 ((aC3.cut n z).run (aD2 p room es)).1) ∧ aB4 _ base g m es ((aC3.cut n z).run (aD2 p room es)).2 w') at a7;rw [<- hR] at a7 ⊢;have HF := qZ hf;have d8 := mI w ⟨b1, 0, none⟩ c1;clear hR h hf hM hE i1 g9 i2 hn hz ht;go_enter Tryz.func54, Tryz.ntmps54
 go_wp2_with fail
 refine wp_region_held_drew (S := fun W => W.cell? ⟨b1, 0, none⟩ = some (.pointer (some ⟨g, 0, none⟩)) ∧ True ∧ True ∧ True) (by kernel_rfl) ⟨c1, trivial, trivial, trivial⟩ (fun hHeld => ?_);refine zT 0 (k := ?_);refine zT 1 (k := ?_);refine zT 3 (k := ?_);simp only [zA, zB, zF, zG, zC, zD, zE];refine zV 2 (k := fun K hK => ?_);simp only [zA, zB];go_simp;refine (show Calls _ _ _ w.drew _ from b8.out).mono ?_;rintro e w1 ⟨rfl, g7⟩;have e9 : Below w.heap.size w w1 := ((lS _ w).drew).trans g7;have d1 : w1.cell? ⟨b1, 0, none⟩ = some (.pointer (some ⟨g, 0, none⟩)) := (e9.cell (p := ⟨b1, 0, none⟩) d8).trans c1;have a8 := qZ e9;clear g7 e9 b8;refine hK.out _ _ ⟨d1, trivial, trivial, trivial⟩ (fun hHeld => ?_);clear hK K;try simp only [zF, zG, zC, zD, zE]
 refine zV 4 (k := fun K hK => ?_);simp only [zA, zB];go_simp;refine (a9.out w1 a8.out).mono ?_;rintro e w2 ⟨rfl, g8⟩;have f7 : Below w.heap.size w w2 := a8.out.trans (g8.mono a8.out.size);have d2 : w2.cell? ⟨b1, 0, none⟩ = some (.pointer (some ⟨g, 0, none⟩)) := (f7.cell (p := ⟨b1, 0, none⟩) d8).trans c1;have f8 := qZ f7;clear g8 f7 a9;refine hK.out _ _ ⟨d2, trivial, trivial, trivial⟩ (fun hHeld => ?_);clear hK K;try simp only [zF, zG, zC, zD, zE]
 refine zV 5 (k := fun K hK => ?_);simp only [zA, zB];go_simp;refine (a7.out w2 f8.out).mono ?_;rintro e w3 ⟨rfl, hT⟩;have g6 := aB4.step (Fr.of_below (aA8 g m es) f8.out) (fun k hk => .inl hk) hT;have HT := qZ g6;have f9 : Fr (aA8 g m es) w w3 := by
  obtain ⟨_, _, _, h3, _⟩ := HT.out;exact h3
 have d3 : w3.cell? ⟨b1, 0, none⟩ = some (.pointer (some ⟨g, 0, none⟩)) := (World.cell?_of_block (f9.block b1 d8 HF.out)).trans c1;clear hT g6 f9 a7;refine hK.out _ _ ⟨d3, trivial, trivial, trivial⟩ (fun hHeld => ?_);clear hK K;try simp only [zF, zG, zC, zD, zE]
 refine zT 6 (k := ?_);simp only [zA, zB, zF, zG, zC, zD, zE];refine wpAnyH_done (by kernel_rfl) ?_ _;clear c1 d1 d2 d3;go_wp2_with fail
 go_ret
 exact ⟨rfl, HT.out⟩
theorem cU4 (h : aB0 w base g m p room es) {E : Nat -> Prop} {s : aB1} {ad : Addr} (b1 b2 b3 : Nat) (z : Int) (hz : -9223372036854775808 <= z ∧ z <= 9223372036854775807) (hM : aY4 w E ad s) (c1 : w.cell? ⟨b1, 0, none⟩ = some (.pointer (some ⟨gj, 0, none⟩))) (c2 : w.cell? ⟨b2, 0, none⟩ = some (.pointer (some ad))) (c4 : w.cell? ⟨b3, 0, none⟩ = some (.int .i64 z)) (c3 : w.cell? ⟨gj, 3, none⟩ = some (.pointer (some ⟨g, 0, none⟩))) (hf : ∀ k, k = b1 ∨ k = b2 ∨ k = b3 ∨ k = gj -> ¬ aA8 g m es k) (ht : Tab w) :
  Calls Tryz.prog 61 #[.pointer (some ⟨b1, 0, none⟩), .pointer (some ⟨b2, 0, none⟩), .pointer (some ⟨b3, 0, none⟩)] w fun e w' => e = .returned (.int .i64 ((aC3.cut (aA1 s.k) z).run (aD2 p room es)).1) ∧ aB4 w base g m es ((aC3.cut (aA1 s.k) z).run (aD2 p room es)).2 w' := by
 have g8 := hM.rd.num.k;have g9 := aJ8 s.k g8;have b8 := qZ ((hM.keep (w' := w.drew) (lR _) (fun _ _ => rfl)).nameJ (ht.below (aA4 (lS _ w) 1)));have a7 := qZ (fun (w2 : World) (hb : Below w.heap.size w w2) => bX0 (h.below hb) (str (aA1 s.k)) (by rw [aP0]; omega) z hz);obtain ⟨n, hn⟩ : ∃ n, n = aA1 s.k := ⟨_, rfl⟩
 rw [<- hn] at b8 a7 ⊢;rw [cB1] at a7;obtain ⟨R, hR⟩ : ∃ R, R = (aC3.cut n z).run (aD2 p room es) := ⟨_, rfl⟩
 change Hid (∀ (w2 : World) (hb : Below w.heap.size w w2), Calls _ _ _ _ fun e w' => e = .returned (.int .i64 ((aC3.cut n z).run (aD2 p room es)).1) ∧ aB4 _ base g m es ((aC3.cut n z).run (aD2 p room es)).2 w') at a7;rw [<- hR] at a7 ⊢;have HF := qZ hf;have e9 := mI w ⟨b1, 0, none⟩ c1;have f7 := mI w ⟨b2, 0, none⟩ c2;have f9 := mI w ⟨gj, 3, none⟩ c3;have f8 := mI w ⟨b3, 0, none⟩ c4;obtain ⟨b, o, _, _, _, _, _, rfl, _⟩ := hM.rd.cells;clear hR h hf hM g8 g9 hn ht hz;go_enter Tryz.func61, Tryz.ntmps61
 go_wp2_with fail
 refine wp_region_held_drew (S := fun W => W.cell? ⟨b1, 0, none⟩ = some (.pointer (some ⟨gj, 0, none⟩)) ∧ W.cell? ⟨b2, 0, none⟩ = some (.pointer (some ⟨b, o, none⟩)) ∧ W.cell? ⟨gj, 3, none⟩ = some (.pointer (some ⟨g, 0, none⟩)) ∧ W.cell? ⟨b3, 0, none⟩ = some (.int .i64 z)) (by kernel_rfl) ⟨c1, c2, c3, c4⟩ (fun hHeld => ?_);refine zT 0 (k := ?_);refine zT 1 (k := ?_);refine zT 2 (k := ?_);refine zT 3 (k := ?_);refine zT 4 (k := ?_);refine zT 6 (k := ?_);simp only [zA, zB, zF, zG, zC, zD, zE];refine zV 5 (k := fun K hK => ?_);simp only [zA, zB];go_simp;refine (show Calls _ _ _ w.drew _ from b8.out).mono ?_;rintro e w1 ⟨rfl, g7⟩;have a8 : Below w.heap.size w w1 := ((lS _ w).drew).trans g7;have e1 : w1.cell? ⟨b1, 0, none⟩ = some (.pointer (some ⟨gj, 0, none⟩)) := (a8.cell (p := ⟨b1, 0, none⟩) e9).trans c1;have e2 : w1.cell? ⟨b2, 0, none⟩ = some (.pointer (some ⟨b, o, none⟩)) := (a8.cell (p := ⟨b2, 0, none⟩) f7).trans c2;have e3 : w1.cell? ⟨gj, 3, none⟩ = some (.pointer (some ⟨g, 0, none⟩)) := (a8.cell (p := ⟨gj, 3, none⟩) f9).trans c3;have e4 : w1.cell? ⟨b3, 0, none⟩ = some (.int .i64 z) := (a8.cell (p := ⟨b3, 0, none⟩) f8).trans c4;have d8 := qZ a8;clear g7 a8 b8;refine hK.out _ _ ⟨e1, e2, e3, e4⟩ (fun hHeld => ?_);clear hK K;try simp only [zF, zG, zC, zD, zE]
 refine zV 7 (k := fun K hK => ?_);simp only [zA, zB];go_simp;refine (a7.out w1 d8.out).mono ?_;rintro e w3 ⟨rfl, hT⟩;have g6 := aB4.step (Fr.of_below (aA8 g m es) d8.out) (fun k hk => .inl hk) hT;have HT := qZ g6;have a9 : Fr (aA8 g m es) w w3 := by
  obtain ⟨_, _, _, h3, _⟩ := HT.out;exact h3
 have d1 : w3.cell? ⟨b1, 0, none⟩ = some (.pointer (some ⟨gj, 0, none⟩)) := (World.cell?_of_block (a9.block b1 e9 (HF.out _ (.inl rfl)))).trans c1;have d2 : w3.cell? ⟨b2, 0, none⟩ = some (.pointer (some ⟨b, o, none⟩)) := (World.cell?_of_block (a9.block b2 f7 (HF.out _ (.inr (.inl rfl))))).trans c2;have d3 : w3.cell? ⟨gj, 3, none⟩ = some (.pointer (some ⟨g, 0, none⟩)) := (World.cell?_of_block (a9.block gj f9 (HF.out _ (.inr (.inr (.inr rfl)))))).trans c3;have d4 : w3.cell? ⟨b3, 0, none⟩ = some (.int .i64 z) := (World.cell?_of_block (a9.block b3 f8 (HF.out _ (.inr (.inr (.inl rfl)))))).trans c4;clear hT g6 a9 a7 e1 e2 e3 e4;refine hK.out _ _ ⟨d1, d2, d3, d4⟩ (fun hHeld => ?_);clear hK K;try simp only [zF, zG, zC, zD, zE]
 refine zT 8 (k := ?_);simp only [zA, zB, zF, zG, zC, zD, zE];refine wpAnyH_done (by kernel_rfl) ?_ _;clear c1 c2 c3 c4 d1 d2 d3 d4;go_wp2_with fail
 go_ret
 exact ⟨rfl, HT.out⟩
end
end
section
open Go.RowKit Go.Shelf Go.Maps Oct
theorem aN2 : (Tryz.prog.info? 98).map (fun i => (i.zero, i.size, i.bytes)) = some (some .nilFunc, 1, 8) := by kernel_rfl
def aK3 (W : World) (E : Nat -> Prop) (gj g : Nat) (v : Value) : aC3 -> Prop
 | .rm n => ∃ b1 b2, v = .func (.func 96) #[] #[.pointer (some ⟨b1, 0, none⟩), .pointer (some ⟨b2, 0, none⟩)] ∧ (E b1 ∧ E b2) ∧ W.cell? ⟨b1, 0, none⟩ = some (.pointer (some ⟨gj, 0, none⟩)) ∧ W.cell? ⟨b2, 0, none⟩ = some (.string (str n)) ∧ n.length <= 1000
 | .sync n => ∃ b1 b2, v = .func (.func 109) #[] #[.pointer (some ⟨b1, 0, none⟩), .pointer (some ⟨b2, 0, none⟩)] ∧ (E b1 ∧ E b2) ∧ W.cell? ⟨b1, 0, none⟩ = some (.pointer (some ⟨gj, 0, none⟩)) ∧ W.cell? ⟨b2, 0, none⟩ = some (.string (str n)) ∧ n.length <= 1000
 | .app n p => ∃ b1 b2 b3 A c, v = .func (.func 117) #[] #[.pointer (some ⟨b1, 0, none⟩), .pointer (some ⟨b2, 0, none⟩), .pointer (some ⟨b3, 0, none⟩)] ∧ (E b1 ∧ E b2 ∧ E b3) ∧ W.cell? ⟨b1, 0, none⟩ = some (.pointer (some ⟨gj, 0, none⟩)) ∧ W.cell? ⟨b2, 0, none⟩ = some (.string (str n)) ∧ n.length <= 1000 ∧ W.cell? ⟨b3, 0, none⟩ = some (.slice A p.length c) ∧ p.length <= c ∧ p.length <= 274877906944 ∧ RdF W E A (cells p)
 | .cut n k => (∃ b1 b13 s, v = .func (.func 54) #[] #[.pointer (some ⟨b1, 0, none⟩), .pointer (some ⟨b13, 0, none⟩)] ∧ E b1 ∧ W.cell? ⟨b1, 0, none⟩ = some (.pointer (some ⟨g, 0, none⟩)) ∧ aY4 W E ⟨b13, 0, none⟩ s ∧ n = aA1 s.k ∧ k = s.long) ∨
  ∃ b1 b2 b3 ad s, v = .func (.func 61) #[] #[.pointer (some ⟨b1, 0, none⟩), .pointer (some ⟨b2, 0, none⟩), .pointer (some ⟨b3, 0, none⟩)] ∧ (E b1 ∧ E b2 ∧ E b3) ∧ W.cell? ⟨b1, 0, none⟩ = some (.pointer (some ⟨gj, 0, none⟩)) ∧ W.cell? ⟨b2, 0, none⟩ = some (.pointer (some ad)) ∧ W.cell? ⟨b3, 0, none⟩ = some (.int .i64 k) ∧ (-9223372036854775808 <= k ∧ k <= 9223372036854775807) ∧ aY4 W E ad s ∧ n = aA1 s.k
 | .ren => ∃ b1, v = .func (.func 70) #[] #[.pointer (some ⟨b1, 0, none⟩)] ∧ E b1 ∧ W.cell? ⟨b1, 0, none⟩ = some (.pointer (some ⟨gj, 0, none⟩))
theorem aK3.keep {W W' : World} {E : Nat -> Prop} {gj g : Nat} {v : Value} {a : aC3} (h : aK3 W E gj g v a) (hs : W.heap.size <= W'.heap.size) (hk : ∀ k, E k -> W'.heap[k]? = W.heap[k]?) : aK3 W' E gj g v a := by
 have hc : ∀ b i u, E b -> W.cell? ⟨b, i, none⟩ = some u -> W'.cell? ⟨b, i, none⟩ = some u := fun b i u hb hu => (World.cell?_of_block (hk b hb)).trans hu
 cases a with
 | rm n =>
  obtain ⟨b1, b2, h1, h2, h3, h4, h5⟩ := h;exact ⟨b1, b2, h1, h2, hc _ _ _ h2.1 h3, hc _ _ _ h2.2 h4, h5⟩
 | sync n =>
  obtain ⟨b1, b2, h1, h2, h3, h4, h5⟩ := h;exact ⟨b1, b2, h1, h2, hc _ _ _ h2.1 h3, hc _ _ _ h2.2 h4, h5⟩
 | app n p =>
  obtain ⟨b1, b2, b3, A, c, h1, h2, h3, h4, h5, h6, h7, h8, h9⟩ := h;exact ⟨b1, b2, b3, A, c, h1, h2, hc _ _ _ h2.1 h3, hc _ _ _ h2.2.1 h4, h5, hc _ _ _ h2.2.2 h6, h7, h8, h9.keep hs hk⟩
 | cut n k =>
  rcases h with ⟨b1, a7, s, h1, h2, h3, h4, h5⟩ | ⟨b1, b2, b3, ad, s, h1, h2, h3, h4, h5, h6, h7, h8⟩
  ·exact .inl ⟨b1, a7, s, h1, h2, hc _ _ _ h2 h3, h4.keep hs hk, h5⟩
  exact .inr ⟨b1, b2, b3, ad, s, h1, h2, hc _ _ _ h2.1 h3, hc _ _ _ h2.2.1 h4, hc _ _ _ h2.2.2 h5, h6, h7.keep hs hk, h8⟩
 | ren =>
  obtain ⟨b1, h1, h2, h3⟩ := h;exact ⟨b1, h1, h2, hc _ _ _ h2 h3⟩
theorem aK3.mono {W : World} {E E' : Nat -> Prop} {gj g : Nat} {v : Value} {a : aC3} (h : aK3 W E gj g v a) (hE : ∀ k, E k -> E' k) : aK3 W E' gj g v a := by
 cases a with
 | rm n =>
  obtain ⟨b1, b2, h1, h2, h3, h4, h5⟩ := h;exact ⟨b1, b2, h1, ⟨hE _ h2.1, hE _ h2.2⟩, h3, h4, h5⟩
 | sync n =>
  obtain ⟨b1, b2, h1, h2, h3, h4, h5⟩ := h;exact ⟨b1, b2, h1, ⟨hE _ h2.1, hE _ h2.2⟩, h3, h4, h5⟩
 | app n p =>
  obtain ⟨b1, b2, b3, A, c, h1, h2, h3, h4, h5, h6, h7, h8, h9⟩ := h;exact ⟨b1, b2, b3, A, c, h1, ⟨hE _ h2.1, hE _ h2.2.1, hE _ h2.2.2⟩, h3, h4, h5, h6, h7, h8, h9.mono hE⟩
 | cut n k =>
  rcases h with ⟨b1, a7, s, h1, h2, h3, h4, h5⟩ | ⟨b1, b2, b3, ad, s, h1, h2, h3, h4, h5, h6, h7, h8⟩
  ·exact .inl ⟨b1, a7, s, h1, hE _ h2, h3, h4.mono hE, h5⟩
  exact .inr ⟨b1, b2, b3, ad, s, h1, ⟨hE _ h2.1, hE _ h2.2.1, hE _ h2.2.2⟩, h3, h4, h5, h6, h7.mono hE, h8⟩
 | ren =>
  obtain ⟨b1, h1, h2, h3⟩ := h;exact ⟨b1, h1, hE _ h2, h3⟩
theorem bC1 (a : aC3) (r : List aC3) : aF4 (a :: r) = a.cost + aF4 r := by unfold aF4; rw [mG, List.sum_cons]
theorem bK9 {es : List (Nm × FE)} {pw : PWD} {room : Int} {L : Nat} (h : JDk L (aD2 pw room es)) : (∀ q ∈ es, (q.2.f.b.length : Int) <= L) ∧ es.length <= L := by
 refine ⟨fun q hq => ?_, ?_⟩
 ·have h1 := aP3 (q := (q.1, q.2.f)) (l := sec FE.f es) (List.mem_map.2 ⟨q, hq, rfl⟩)
  have h2 := h.sz;have e : aB7 (aD2 pw room es).fs = aB7 (sec FE.f es) := rfl;simp only at h1;omega
 have h2 := h.len;have e : (aD2 pw room es).fs.length = es.length := by show (sec FE.f es).length = _; simp
 omega
theorem cN1 {W : World} {E : Nat -> Prop} {base g m gj : Nat} {pw : PWD} {room : Int} {es : List (Nm × FE)} {a : aC3} {v : Value} (hD : aB0 W base g m pw room es) (ha : aK3 W E gj g v a) (c3 : W.cell? ⟨gj, 3, none⟩ = some (.pointer (some ⟨g, 0, none⟩)))
  (hE : ∀ k, E k -> k < W.heap.size ∧ ¬ aA8 g m es k) (a7 : ¬ aA8 g m es gj) (ht : Tab W) {L : Nat} (a8 : JDk L (aD2 pw room es)) (hL : L <= 137438953472) :
  ∃ F caps, v = .func (.func F) #[] caps ∧ Enters Tryz.prog F ∧ Calls Tryz.prog F caps W fun e w' => e = .returned (.int .i64 (a.run (aD2 pw room es)).1) ∧ aB4 W base g m es (a.run (aD2 pw room es)).2 w' := by
 have b8 := bK9 a8;have d8 : aB7 (sec FE.f es) <= 4611686018427387904 := by
  have h2 := a8.sz;have e : aB7 (aD2 pw room es).fs = aB7 (sec FE.f es) := rfl;omega
 cases a with
 | rm n =>
  obtain ⟨b1, b2, h1, h2, h3, h4, h5⟩ := ha;exact ⟨_, _, h1, enters_of Tryz.func96 (by kernel_rfl) rfl, dJ4 hD n h5 b1 b2 h3 h4 c3 (by rintro k (rfl | rfl | rfl); exact (hE _ h2.1).2; exact (hE _ h2.2).2; exact a7)⟩
 | sync n =>
  obtain ⟨b1, b2, h1, h2, h3, h4, h5⟩ := ha;exact ⟨_, _, h1, enters_of Tryz.func109 (by kernel_rfl) rfl, cV3 hD n h5 b1 b2 h3 h4 c3 (by rintro k (rfl | rfl | rfl); exact (hE _ h2.1).2; exact (hE _ h2.2).2; exact a7)⟩
 | app n p =>
  obtain ⟨b1, b2, b3, A, c, h1, h2, h3, h4, h5, h6, h7, h8, h9⟩ := ha;exact ⟨_, _, h1, enters_of Tryz.func117 (by kernel_rfl) rfl, dC6 hD n h5 p A c b1 b2 b3 h3 h4 h6 c3 (by rintro k (rfl | rfl | rfl | rfl); exact (hE _ h2.1).2; exact (hE _ h2.2.1).2; exact (hE _ h2.2.2).2; exact a7) h9.rd h7 h8 (fun q hq => by have := b8.1 q hq; omega) d8 (by omega)⟩
 | cut n k =>
  rcases ha with ⟨b1, a9, s, h1, h2, h3, h4, h5, h6⟩ | ⟨b1, b2, b3, ad, s, h1, h2, h3, h4, h5, h6, h7, h8⟩
  ·subst h5 h6
   exact ⟨_, _, h1, enters_of Tryz.func54 (by kernel_rfl) rfl, cU3 hD b1 a9 h4 (fun k hk => (hE k hk).1) h3 (hE _ h2).2 ht⟩
  subst h8;exact ⟨_, _, h1, enters_of Tryz.func61 (by kernel_rfl) rfl, cU4 hD b1 b2 b3 k h6 h7 h3 h4 h5 c3 (by rintro k (rfl | rfl | rfl | rfl); exact (hE _ h2.1).2; exact (hE _ h2.2.1).2; exact (hE _ h2.2.2).2; exact a7) ht⟩
 | ren =>
  obtain ⟨b1, h1, h2, h3⟩ := ha;exact ⟨_, _, h1, enters_of Tryz.func70 (by kernel_rfl) rfl, dC7 hD b1 h3 c3 (by omega)⟩
def dL9 (w : World) (base g m : Nat) (es : List (Nm × FE)) (gj : Nat) (t v : Int) (sv : Value) (d : DkD) (bad : Int) (w' : World) : Prop :=
 ∃ es', aB0 w' base g m d.pw d.room es' ∧ sec FE.f es' = d.fs ∧ Blk w' gj 53 #[.int .i64 t, .int .i64 v, sv, .pointer (some ⟨g, 0, none⟩), .int .i64 bad] ∧ Fr (fun k => aA8 g m es k ∨ k = gj) w w' ∧ ∀ k, aA8 g m es' k -> aA8 g m es k ∨ w.heap.size <= k
theorem DkD.eta' (d : DkD) {es : List (Nm × FE)} (h : sec FE.f es = d.fs) : aD2 d.pw d.room es = d := by
 unfold aD2;rw [h]
theorem aR7 {w : World} {E : Nat -> Prop} {base g m gj : Nat} {pw : PWD} {room : Int} {es : List (Nm × FE)} (hD : aB0 w base g m pw room es) {t v : Int} {sv : Value} (hJ : Blk w gj 53 #[.int .i64 t, .int .i64 v, sv, .pointer (some ⟨g, 0, none⟩), .int .i64 0]) (q7 : base <= gj)
  (A : Option Addr) (vs : List Value) (al : List aC3) (c : Nat) (hr : RdF w E A vs) (hn : vs.length = al.length) (hv : ∀ k (h : k < vs.length) (h' : k < al.length), aK3 w E gj g vs[k] al[k])
  (hE : ∀ k, E k -> k < w.heap.size ∧ ¬ aA8 g m es k ∧ k ≠ gj) (hT : ∀ w', Below base w w' -> Tab w') {L : Nat} (o8 : JDk L (aD2 pw room es)) (hL : L + aF4 al <= 137438953472) (q5 : al.length <= 1099511627776) :
  Calls Tryz.prog 48 #[.pointer (some ⟨gj, 0, none⟩), .slice A al.length c] w fun e w' => e = .returned (.int .i64 (aG1 al (aD2 pw room es)).1) ∧ dL9 w base g m es gj t v sv (aG1 al (aD2 pw room es)).2 (aG1 al (aD2 pw room es)).1 w' := by
 have o7 : ¬ aA8 g m es gj := hD.not_foot hJ (by decide) (by decide) (by decide);have q8 := hJ.lt;have g8 := qZ hD.lt;have HR := qZ hr;have HV := qZ hv;have HE := qZ hE;have HT := qZ hT;have HN := qZ hn;have n6 : dL9 w base g m es gj t v sv (aD2 pw room es) 0 w := ⟨es, hD, rfl, hJ, Fr.refl _ _, fun k hk => .inl hk⟩;have m3 := qZ n6;have m2 := qZ o8;have p9 := qZ o7;obtain ⟨d0, n9⟩ : ∃ d, d = aD2 pw room es := ⟨_, rfl⟩
 rw [<- n9] at m3 m2 ⊢;obtain ⟨R, l8⟩ : ∃ R, R = aG1 al d0 := ⟨_, rfl⟩
 rw [<- l8];have p5 := qZ l8;clear hr hv hE hT hn n6 o8 o7 hD hJ n9 l8;go_enter Tryz.func48, Tryz.ntmps48
 go_wp2_with fail
 go_loopw [9, 6] (fun i _ wr => ∃ (k Lk : Nat) (d : DkD) (bd : Int), k <= al.length ∧ i = .int .i64 k ∧ Lk + aF4 (al.drop k) <= 137438953472 ∧ Hid (dL9 w base g m es gj t v sv d bd wr) ∧ Hid (JDk Lk d) ∧ Hid (R = if bd = 0 then aG1 (al.drop k) d else (bd, d))) (fun i _ _ => al.length - (intOf i).toNat)
 case atStart => exact ⟨0, L, d0, 0, by omega, rfl, hL, m3, m2, qZ (by rw [if_pos rfl]; exact p5.out)⟩
 obtain ⟨k, Lk, d, bd, hk, rfl, m7, i6, b8, g9⟩ := hrel;obtain ⟨m5, i1, i4, f9, f7, a8⟩ := i6.out;have o9 := f7.size;have c2 : wr.cell? ⟨gj, 4, none⟩ = some (.int .i64 bd) := f9.cell 4;by_cases hlt : k < al.length
 rotate_left
 ·obtain rfl : k = al.length := by omega
  have g7 : R = (bd, d) := by
   rw [g9.out, List.drop_length];split
   ·rename_i h; rw [h]; rfl
   rfl
  have p6 := qZ (show dL9 w base g m es gj t v sv R.2 R.1 wr by rw [g7]; exact i6.out);have m8 : R.1 = bd := by rw [g7]
  have p4 := qZ m8;clear g7 m8 i1 i4 f9 f7 a8;go_wp2_with fail
  go_ret
  exact ⟨by rw [p4.out]; rfl, p6.out⟩
 have j9 : k < vs.length := by rw [HN.out]; exact hlt
 have j8 : ∀ q, E q -> wr.heap[q]? = w.heap[q]? := fun q hq => f7.block q (HE.out q hq).1 (by rintro (h1 | h1); exact (HE.out q hq).2.1 h1; exact (HE.out q hq).2.2 h1)
 obtain ⟨ab, ao, rfl, _, p7, l9⟩ := (HR.out.keep o9 j8) (by omega);have n8 : wr.cell? ⟨ab, ao + k, none⟩ = some vs[k] := l9 k _ (lW j9);have i2 : al.drop k = al[k] :: al.drop (k + 1) := List.drop_eq_getElem_cons hlt;have a9 : aF4 (al.drop k) = al[k].cost + aF4 (al.drop (k + 1)) := by rw [i2, bC1]
 obtain ⟨u, hu⟩ : ∃ u, u = vs[k] := ⟨_, rfl⟩
 obtain ⟨a, ha⟩ : ∃ a, a = al[k] := ⟨_, rfl⟩
 have g6 : aK3 wr E gj g u a := by rw [hu, ha]; exact (HV.out k j9 hlt).keep o9 j8
 rw [<- hu] at n8;rw [<- ha] at i2 a9;by_cases hz : bd = 0
 rotate_left
 ·have l7 : Lk + aF4 (al.drop (k + 1)) <= 137438953472 := by omega
  have l5 := qZ (show R = if bd = 0 then aG1 (al.drop (k + 1)) d else (bd, d) by rw [g9.out, if_neg hz, if_neg hz]);have q6 : (bd == 0) = false := by simpa using hz
  clear g6 i2 a9 ha hu j8 a8 f7 i1 i4 f9 l9 j9 m7 g9 hz;go_wp2_with fail
  go_roundw
  case rel => exact ⟨k + 1, Lk, d, bd, by omega, by go_num, l7, i6, b8, l5⟩
  case measure => simp [intOf]; omega
 subst hz;have m9 : R = aG1 (a :: al.drop (k + 1)) d := by rw [g9.out, if_pos rfl, i2]
 have c3 : wr.cell? ⟨gj, 3, none⟩ = some (.pointer (some ⟨g, 0, none⟩)) := f9.cell 3;have m0 : ¬ aA8 g m m5 gj := i1.not_foot f9 (by decide) (by decide) (by decide);have n7 : Below base w wr := f7.below (by have := g8.out g (.inl rfl); omega) (by rintro j (h1 | h1); exact (g8.out j h1).1; omega);obtain ⟨F, l6, hv, i3, a7⟩ := cN1 i1 g6 c3 (fun q hq => ⟨by have := (HE.out q hq).1; omega, fun h1 => by
  rcases a8 q h1 with h2 | h2
  ·exact (HE.out q hq).2.1 h2
  have := (HE.out q hq).1; omega⟩) m0 (HT.out _ n7) (by rw [DkD.eta' d i4]; exact b8.out) (by omega)
 rw [DkD.eta' d i4] at a7;subst hv;obtain ⟨AR, j6⟩ : ∃ AR, AR = a.run d := ⟨_, rfl⟩
 rw [<- j6] at a7;have g7 : R = if AR.1 = 0 then aG1 (al.drop (k + 1)) AR.2 else AR := by rw [m9, j6]; rfl
 have l5 := qZ g7;have l4 := qZ (show JDk (Lk + a.cost) AR.2 by rw [j6]; exact b8.out.run a);have l7 : Lk + a.cost + aF4 (al.drop (k + 1)) <= 137438953472 := by omega
 have d8 := qZ a7;have e9 : Hid (∀ w7, aB4 wr base g m m5 AR.2 w7 -> ∃ (hz : Blk w7 gj 53 #[.int .i64 t, .int .i64 v, sv, .pointer (some ⟨g, 0, none⟩), .int .i64 0]), dL9 w base g m es gj t v sv AR.2 AR.1 (w7.setCell ⟨gj, 4, none⟩ (.int .i64 AR.1))) := qZ (fun w7 hT7 => by
  obtain ⟨m4, h1, h2, h3, h4⟩ := hT7;have f8 := h3.blk_ f9 m0;have p8 : ¬ aA8 g m m4 gj := h1.not_foot f8 (by decide) (by decide) (by decide);refine ⟨f8, m4, ?_, h2, Blk.set_ f8 4 _, ?_, fun q hq => ?_⟩
  ·exact h1.keep (aA0 w7 gj 4 _).size (fun q hq => Below.heap_setCell _ _ _ _ (by show q ≠ gj; rintro rfl; exact p8 hq))
  ·have e1 := f7.trans h3 (fun j hj => (a8 j hj).elim (fun h => .inl (.inl h)) .inr)
   exact e1.trans (Fr.of_grown (mine := fun k => k = gj) (aA0 w7 gj 4 _) (fun k e => by injection e with e; exact e.symm)) (fun j hj => .inl (.inr hj))
  rcases h4 q hq with h5 | h5
  ·exact a8 q h5
  exact .inr (by omega))
 clear g6 i2 a9 ha hu a7 j6 j8 a8 f7 i1 i4 f9 m0 n7 g7 m9 l9 j9 m7 i6 b8 g9 c3;go_wp2_with fail
 rw [i3 l6 wr];refine d8.out.mono ?_;rintro e w7 ⟨rfl, hT7⟩;obtain ⟨f8, m6⟩ := e9.out w7 hT7;have f4 : w7.cell? ⟨gj, 4, none⟩ = some (.int .i64 0) := f8.cell 4;have z4 : w7.frozen? ⟨gj, 4, none⟩ = false := f8.frozen _;have p0 := qZ m6;clear hT7 f8 m6 d8 e9 i3 n8 c2;go_wp2_with fail
 go_roundw
 case rel => exact ⟨k + 1, Lk + a.cost, AR.2, AR.1, by omega, by go_num, l7, p0, l4, l5⟩
 case measure => simp [intOf]; omega
end
section
open Go.RowKit Go.Shelf Go.Maps Oct
section
variable {w : World} {gj g : Nat}
theorem bQ3 (n : Nm) (hn : n.length <= 1000) (w : World) :
  Calls Tryz.prog 49 #[.pointer (some ⟨gj, 0, none⟩), .string (str n)] w fun e w' => ∃ v, e = .returned v ∧ Below w.heap.size w w' ∧ (∃ F caps, v = Value.func (.func F) #[] caps) ∧ (∀ k, w.heap.size <= k -> k < w'.heap.size -> ∀ cs fz, w'.heap[k]? ≠ some (.cells cs 98 fz)) ∧ ∀ E : Nat -> Prop, (∀ k, w.heap.size <= k -> k < w'.heap.size -> E k) -> aK3 w' E gj g v (.rm n) := by
 have a7 : ∀ W, W = (w.alloc (.cells #[.pointer (some ⟨gj, 0, none⟩)] 30)).alloc (.cells #[.string (str n)] 9) -> Below w.heap.size w W ∧ (∀ k, w.heap.size <= k -> k < W.heap.size -> ∀ cs fz, W.heap[k]? ≠ some (.cells cs 98 fz)) ∧ ∀ E : Nat -> Prop, (∀ k, w.heap.size <= k -> k < W.heap.size -> E k) -> aK3 W E gj g (.func (.func 96) #[] #[.pointer (some ⟨w.heap.size, 0, none⟩), .pointer (some ⟨w.heap.size + 1, 0, none⟩)]) (.rm n) := by
  rintro W rfl;have h1 := Blk.new w 30 #[.pointer (some ⟨gj, 0, none⟩)];have h2 := Blk.new (w.alloc (.cells #[.pointer (some ⟨gj, 0, none⟩)] 30)) 9 #[.string (str n)];have hs : (w.alloc (.cells #[.pointer (some ⟨gj, 0, none⟩)] 30)).heap.size = w.heap.size + 1 := by simp
  rw [hs] at h2;have a8 := h1.below ((lS _ (w.alloc (.cells #[.pointer (some ⟨gj, 0, none⟩)] 30))).alloc (lR _) (.cells #[.string (str n)] 9)) h1.lt;have b8 : ∀ k, w.heap.size <= k -> k < ((w.alloc (.cells #[.pointer (some ⟨gj, 0, none⟩)] 30)).alloc (.cells #[.string (str n)] 9)).heap.size -> ∀ cs fz, ((w.alloc (.cells #[.pointer (some ⟨gj, 0, none⟩)] 30)).alloc (.cells #[.string (str n)] 9)).heap[k]? ≠ some (.cells cs 98 fz) := fun k hk1 hk2 cs fz e => by
   have d8 : k < w.heap.size + 1 + 1 := by simpa using hk2
   rcases (by omega : k = w.heap.size ∨ k = w.heap.size + 1) with rfl | rfl
   ·rw [a8] at e
    injection e with e
    injection e with _ e _
    exact absurd e (by decide)
   rw [h2] at e;injection e with e
   injection e with _ e _
   exact absurd e (by decide)
  exact ⟨((lS _ w).alloc (lR _) _).alloc (by simp) _, b8, fun E hE => ⟨_, _, rfl, ⟨hE _ (lR _) (by simp; omega), hE _ (by omega) (by simp)⟩, a8.cell 0, h2.cell 0, hn⟩⟩
 have a9 := qZ a7;clear a7;go_enter Tryz.func49, Tryz.ntmps49
 go_wp2_with fail
 go_ret
 obtain ⟨h1, h3, h2⟩ := a9.out _ rfl;exact ⟨_, rfl, h1, ⟨_, _, rfl⟩, h3, h2⟩
theorem bH9 (n : Nm) (hn : n.length <= 1000) (w : World) :
  Calls Tryz.prog 57 #[.pointer (some ⟨gj, 0, none⟩), .string (str n)] w fun e w' => ∃ v, e = .returned v ∧ Below w.heap.size w w' ∧ (∃ F caps, v = Value.func (.func F) #[] caps) ∧ (∀ k, w.heap.size <= k -> k < w'.heap.size -> ∀ cs fz, w'.heap[k]? ≠ some (.cells cs 98 fz)) ∧ ∀ E : Nat -> Prop, (∀ k, w.heap.size <= k -> k < w'.heap.size -> E k) -> aK3 w' E gj g v (.sync n) := by
 have a7 : ∀ W, W = (w.alloc (.cells #[.pointer (some ⟨gj, 0, none⟩)] 30)).alloc (.cells #[.string (str n)] 9) -> Below w.heap.size w W ∧ (∀ k, w.heap.size <= k -> k < W.heap.size -> ∀ cs fz, W.heap[k]? ≠ some (.cells cs 98 fz)) ∧ ∀ E : Nat -> Prop, (∀ k, w.heap.size <= k -> k < W.heap.size -> E k) -> aK3 W E gj g (.func (.func 109) #[] #[.pointer (some ⟨w.heap.size, 0, none⟩), .pointer (some ⟨w.heap.size + 1, 0, none⟩)]) (.sync n) := by
  rintro W rfl;have h1 := Blk.new w 30 #[.pointer (some ⟨gj, 0, none⟩)];have h2 := Blk.new (w.alloc (.cells #[.pointer (some ⟨gj, 0, none⟩)] 30)) 9 #[.string (str n)];have hs : (w.alloc (.cells #[.pointer (some ⟨gj, 0, none⟩)] 30)).heap.size = w.heap.size + 1 := by simp
  rw [hs] at h2;have a8 := h1.below ((lS _ (w.alloc (.cells #[.pointer (some ⟨gj, 0, none⟩)] 30))).alloc (lR _) (.cells #[.string (str n)] 9)) h1.lt;have b8 : ∀ k, w.heap.size <= k -> k < ((w.alloc (.cells #[.pointer (some ⟨gj, 0, none⟩)] 30)).alloc (.cells #[.string (str n)] 9)).heap.size -> ∀ cs fz, ((w.alloc (.cells #[.pointer (some ⟨gj, 0, none⟩)] 30)).alloc (.cells #[.string (str n)] 9)).heap[k]? ≠ some (.cells cs 98 fz) := fun k hk1 hk2 cs fz e => by
   have d8 : k < w.heap.size + 1 + 1 := by simpa using hk2
   rcases (by omega : k = w.heap.size ∨ k = w.heap.size + 1) with rfl | rfl
   ·rw [a8] at e
    injection e with e
    injection e with _ e _
    exact absurd e (by decide)
   rw [h2] at e;injection e with e
   injection e with _ e _
   exact absurd e (by decide)
  exact ⟨((lS _ w).alloc (lR _) _).alloc (by simp) _, b8, fun E hE => ⟨_, _, rfl, ⟨hE _ (lR _) (by simp; omega), hE _ (by omega) (by simp)⟩, a8.cell 0, h2.cell 0, hn⟩⟩
 have a9 := qZ a7;clear a7;go_enter Tryz.func57, Tryz.ntmps57
 go_wp2_with fail
 go_ret
 obtain ⟨h1, h3, h2⟩ := a9.out _ rfl;exact ⟨_, rfl, h1, ⟨_, _, rfl⟩, h3, h2⟩
theorem cE5 (n : Nm) (hn : n.length <= 1000) (p : List UInt8) (A : Option Addr) (c : Nat) (f7 : p.length <= c) (hp : p.length <= 274877906944) (w : World) :
  Calls Tryz.prog 66 #[.pointer (some ⟨gj, 0, none⟩), .string (str n), .slice A p.length c] w fun e w' => ∃ v, e = .returned v ∧ Below w.heap.size w w' ∧ (∃ F caps, v = Value.func (.func F) #[] caps) ∧ (∀ k, w.heap.size <= k -> k < w'.heap.size -> ∀ cs fz, w'.heap[k]? ≠ some (.cells cs 98 fz)) ∧ ∀ E : Nat -> Prop, (∀ k, w.heap.size <= k -> k < w'.heap.size -> E k) -> RdF w' E A (cells p) -> aK3 w' E gj g v (.app n p) := by
 have a8 : ∀ W, W = ((w.alloc (.cells #[.pointer (some ⟨gj, 0, none⟩)] 30)).alloc (.cells #[.string (str n)] 9)).alloc (.cells #[.slice A p.length c] 34) -> Below w.heap.size w W ∧ (∀ k, w.heap.size <= k -> k < W.heap.size -> ∀ cs fz, W.heap[k]? ≠ some (.cells cs 98 fz)) ∧ ∀ E : Nat -> Prop, (∀ k, w.heap.size <= k -> k < W.heap.size -> E k) -> RdF W E A (cells p) -> aK3 W E gj g (.func (.func 117) #[] #[.pointer (some ⟨w.heap.size, 0, none⟩), .pointer (some ⟨w.heap.size + 1, 0, none⟩), .pointer (some ⟨w.heap.size + 1 + 1, 0, none⟩)]) (.app n p) := by
  rintro W rfl;have h1 := Blk.new w 30 #[.pointer (some ⟨gj, 0, none⟩)];have h2 := Blk.new (w.alloc (.cells #[.pointer (some ⟨gj, 0, none⟩)] 30)) 9 #[.string (str n)];have h3 := Blk.new ((w.alloc (.cells #[.pointer (some ⟨gj, 0, none⟩)] 30)).alloc (.cells #[.string (str n)] 9)) 34 #[.slice A p.length c];have hs : (w.alloc (.cells #[.pointer (some ⟨gj, 0, none⟩)] 30)).heap.size = w.heap.size + 1 := by simp
  have f8 : ((w.alloc (.cells #[.pointer (some ⟨gj, 0, none⟩)] 30)).alloc (.cells #[.string (str n)] 9)).heap.size = w.heap.size + 1 + 1 := by simp
  rw [hs] at h2;rw [f8] at h3;have b2 := (lS _ (w.alloc (.cells #[.pointer (some ⟨gj, 0, none⟩)] 30))).alloc (lR _) (.cells #[.string (str n)] 9);have b3 := (lS _ ((w.alloc (.cells #[.pointer (some ⟨gj, 0, none⟩)] 30)).alloc (.cells #[.string (str n)] 9))).alloc (lR _) (.cells #[.slice A p.length c] 34);have a9 := (h1.below b2 h1.lt);have a7 := a9.below b3 a9.lt;have b8 := h2.below b3 h2.lt;have e9 : ∀ k, w.heap.size <= k -> k < (((w.alloc (.cells #[.pointer (some ⟨gj, 0, none⟩)] 30)).alloc (.cells #[.string (str n)] 9)).alloc (.cells #[.slice A p.length c] 34)).heap.size -> ∀ cs fz, (((w.alloc (.cells #[.pointer (some ⟨gj, 0, none⟩)] 30)).alloc (.cells #[.string (str n)] 9)).alloc (.cells #[.slice A p.length c] 34)).heap[k]? ≠ some (.cells cs 98 fz) := fun k hk1 hk2 cs fz e => by
   have f9 : k < w.heap.size + 1 + 1 + 1 := by simpa using hk2
   rcases (by omega : k = w.heap.size ∨ k = w.heap.size + 1 ∨ k = w.heap.size + 1 + 1) with rfl | rfl | rfl
   ·rw [a7] at e
    injection e with e
    injection e with _ e _
    exact absurd e (by decide)
   ·rw [b8] at e
    injection e with e
    injection e with _ e _
    exact absurd e (by decide)
   rw [h3] at e;injection e with e
   injection e with _ e _
   exact absurd e (by decide)
  exact ⟨(((lS _ w).alloc (lR _) _).alloc (by simp) _).alloc (by simp; omega) _, e9, fun E hE hr => ⟨_, _, _, _, _, rfl, ⟨hE _ (lR _) (by simp <;> omega), hE _ (by omega) (by simp <;> omega), hE _ (by omega) (by simp <;> omega)⟩, a7.cell 0, b8.cell 0, hn, h3.cell 0, f7, hp, hr⟩⟩
 have d8 := qZ a8;clear a8;go_enter Tryz.func66, Tryz.ntmps66
 go_wp2_with fail
 go_ret
 obtain ⟨h1, h3, h2⟩ := d8.out _ rfl;exact ⟨_, rfl, h1, ⟨_, _, rfl⟩, h3, h2⟩
end
end
end Go.Proofs.YtgeofijddhflaaaGreatDoor
