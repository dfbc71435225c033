/- A step of a drawing region's walk in short: what an operation needs is shown by the way. No condition. -/
import Derived.Test.YtgeofijddhflaaaGreatDoorLCalcPlain
import Derived.Laws.CopyOwn
import Derived.Deep.AppendLies
import Derived.Deep.Draws
import Derived.Laws.Slices
import Derived.Laws.BytesArg
import Derived.Deep.RegionHeld3
import Derived.RangeFuncNested
import Derived.OrdersIn
set_option linter.unusedVariables false
set_option linter.unusedSimpArgs false
namespace Go.Proofs.YtgeofijddhflaaaGreatDoor.Oct
def dig7 (n : Nat) : UInt8 := UInt8.ofNat (n % 128 + 128)
def low7 (n : Nat) : UInt8 := UInt8.ofNat (n % 128)
def bS6 (n : Nat) : List UInt8 := if _h : n = 0 then [] else bS6 (n / 128) ++ [dig7 n]
 termination_by n
 decreasing_by exact Nat.div_lt_self (Nat.pos_of_ne_zero _h) (by omega)
def enc (n : Nat) : List UInt8 := bS6 (n / 128) ++ [low7 n]
theorem aR3 : bS6 0 = [] := by rw [bS6]; simp
theorem bG9 (n : Nat) (h : n ≠ 0) : bS6 n = bS6 (n / 128) ++ [dig7 n] := by
 conv => lhs; rw [bS6]
 simp [h]
def cells (l : List UInt8) : List Value := l.map fun b => .int .u8 (b.toNat : Int)
theorem aA2 (l : List UInt8) : (cells l).length = l.length := by simp [cells]
theorem aN7 (a b : List UInt8) : cells (a ++ b) = cells a ++ cells b := by simp [cells]
theorem cR4 : cells [] = [] := rfl
theorem cI4 (n k : Nat) (h : n < 128 ^ k) : (bS6 n).length <= k := by
 induction k generalizing n with
 | zero =>
  have : n = 0 := by simpa using h
  subst this;simp [aR3]
 | succ k ih =>
  by_cases h0 : n = 0
  ·subst h0; simp [aR3]
  rw [bG9 n h0];have : n / 128 < 128 ^ k := by
   apply Nat.div_lt_of_lt_mul
   rw [Nat.pow_succ] at h;omega
  have := ih _ this;simp
  omega
theorem dI9 (n : Nat) : 0 < (enc n).length := by simp [enc]
theorem aM0 (n : Nat) (h : n < 18446744073709551616) : (enc n).length <= 10 := by
 have := cI4 (n / 128) 9 (by omega);simp [enc]
 omega
def num : List UInt8 -> Nat
 | l => l.foldl (fun a b => a * 128 + b.toNat % 128) 0
theorem aO3 (m : Nat) (h : m < 256) : (UInt8.ofNat m).toNat = m := by
 simp; omega
theorem dP9 (k : Nat) : (2 : Nat) ^ (7 * k) = 128 ^ k := by rw [Nat.pow_mul]
theorem bU5 (k : Nat) : (2 : Int) ^ (7 * k) = ((128 ^ k : Nat) : Int) := by rw [<- dP9]; simp
theorem dH2 {n k : Nat} (h : (128 : Int) <= (n : Int) / 2 ^ (7 * k)) : 128 <= n / 128 ^ k := by
 rw [bU5, <- Int.natCast_ediv] at h;omega
theorem dF0 {n k : Nat} (hn : n < 2 ^ 64) (h : (128 : Int) <= (n : Int) / 2 ^ (7 * k)) : k < 9 := by
 have h1 := dH2 h;rcases Nat.lt_or_ge k 9 with h9 | h9
 ·exact h9
 have h2 : (128 : Nat) ^ 9 <= 128 ^ k := Nat.pow_le_pow_right (by omega) h9;have h3 : n / 128 ^ k <= n / 128 ^ 9 := Nat.div_le_div_left h2 (by omega);omega
def Big (n k : Nat) : Prop := k = 0 ∨ 128 <= n / 128 ^ (k - 1)
theorem cW8 (m : Nat) : (m % 256) ||| 128 = m % 128 + 128 := by
 have h : ∀ x : Fin 256, x.val ||| 128 = x.val % 128 + 128 := by decide +kernel
 have := h ⟨m % 256, Nat.mod_lt _ (by omega)⟩;simp only at this;omega
theorem cS1 {n k j : Nat} (hB : Big n k) (hj : j <= k) (h0 : 0 < j) : bS6 (n / 128 ^ j) = bS6 (n / 128 ^ (j + 1)) ++ [dig7 (n / 128 ^ j)] := by
 have a7 : n / 128 ^ j ≠ 0 := by
  rcases hB with h | h
  ·omega
  have h1 : (128 : Nat) ^ (j - 1) <= 128 ^ (k - 1) := Nat.pow_le_pow_right (by omega) (by omega);have h2 : n / 128 ^ (k - 1) <= n / 128 ^ (j - 1) := Nat.div_le_div_left h1 (Nat.pow_pos (by omega));obtain ⟨i, rfl⟩ : ∃ i, j = i + 1 := ⟨j - 1, by omega⟩
  rw [Nat.pow_succ, <- Nat.div_div_eq_div_mul];simp at h2
  omega
 rw [bG9 _ a7, Nat.pow_succ, Nat.div_div_eq_div_mul]
theorem cM0 {n k : Nat} (h : (n : Int) / 2 ^ (7 * k) < 128) : bS6 (n / 128 ^ (k + 1)) = [] := by
 rw [bU5, <- Int.natCast_ediv] at h;rw [Nat.pow_succ, <- Nat.div_div_eq_div_mul, Nat.div_eq_of_lt (by omega), aR3]
def tkc (m : Nat) : Bool -> Nat -> Nat -> List UInt8 -> Nat × Nat × Int
 | _, _, i, [] => (0, i, 3)
 | first, n, i, c :: r =>
  if (first && c == 128) || decide (m / 128 < n) || (decide (n = m / 128) && decide (m % 128 < c.toNat % 128)) then (0, i + 1, 4)
  else if c.toNat < 128 then (n * 128 + c.toNat % 128, i + 1, 0)
  else tkc m false (n * 128 + c.toNat % 128) (i + 1) r
theorem dO1 (m : Nat) (f : Bool) (n i : Nat) (l : List UInt8) : (tkc m f n i l).1 <= m := by
 induction l generalizing f n i with
 | nil => simp [tkc]
 | cons c r ih =>
  rw [tkc];split
  ·exact Nat.zero_le _
  rename_i hb
  simp only [Bool.or_eq_true, Bool.and_eq_true, decide_eq_true_eq, not_or, not_and] at hb;have h2 := hb.2;have h1 := hb.1.2;split
  ·show n * 128 + c.toNat % 128 <= m
   by_cases hn : n = m / 128
   ·have := h2 hn; omega
   omega
  exact ih ..
theorem dG3 (m : Nat) (f : Bool) (n i : Nat) (l : List UInt8) : i <= (tkc m f n i l).2.1 ∧ (tkc m f n i l).2.1 <= i + l.length := by
 induction l generalizing f n i with
 | nil => simp [tkc]
 | cons c r ih =>
  rw [tkc];split
  ·simp
  split
  ·simp
  have := ih false (n * 128 + c.toNat % 128) (i + 1);simp only [mC];omega
def cnt (m : Nat) (l : List UInt8) : Nat × Nat × Int := tkc m true 0 0 l
theorem cI2 (m : Nat) (l : List UInt8) : (cnt m l).1 <= m := dO1 ..
theorem bS4 (m : Nat) (l : List UInt8) : (cnt m l).2.1 <= l.length := by have := (dG3 m true 0 0 l).2; simpa [cnt] using this
def maxI : Nat := 9223372036854775807
def maxU : Nat := 18446744073709551615
def aB9 (m : Nat) (l : List UInt8) : Nat × Nat × Int := ((cnt m l).1, if (cnt m l).2.2 = 0 then (cnt m l).2.1 else 0, (cnt m l).2.2)
def aI4 (u : Nat) : Int := if u % 2 = 0 then (u / 2 : Nat) else -((u / 2 : Nat) : Int) - 1
def fold1 (n : Int) : Nat := if 0 <= n then 2 * n.toNat else 2 * (-(n + 1)).toNat + 1
end Go.Proofs.YtgeofijddhflaaaGreatDoor.Oct
namespace Go.Proofs.YtgeofijddhflaaaGreatDoor.Oct
theorem bP4 (n : Nat) : (dig7 n).toNat = n % 128 + 128 := aO3 _ (by omega)
theorem bQ8 (n : Nat) : (low7 n).toNat = n % 128 := aO3 _ (by omega)
theorem cZ5 {a b : UInt8} (h : a.toNat = b.toNat) : a = b := UInt8.toNat_inj.1 h
theorem cL1 {m n i : Nat} {f : Bool} {c : UInt8} {r : List UInt8} (h1 : f = true -> c.toNat ≠ 128) (h2 : n <= m / 128) (h3 : n = m / 128 -> c.toNat % 128 <= m % 128) :
  tkc m f n i (c :: r) = if c.toNat < 128 then (n * 128 + c.toNat % 128, i + 1, 0) else tkc m false (n * 128 + c.toNat % 128) (i + 1) r := by
 rw [tkc, if_neg];simp only [Bool.or_eq_true, Bool.and_eq_true, decide_eq_true_eq, beq_iff_eq, not_or, not_and];refine ⟨⟨fun hf hc => h1 hf (by rw [hc]; rfl), by omega⟩, fun hn => by have := h3 hn; omega⟩
theorem dG1 (m : Nat) (r : List UInt8) (i : Nat) (N : Nat) : N ≠ 0 -> N <= m / 128 -> ∀ r, tkc m true 0 i (bS6 N ++ r) = tkc m false N (i + (bS6 N).length) r := by
 induction N using Nat.strongRecOn with
 | _ N ih =>
  intro h0 hm r;rw [bG9 N h0, List.append_assoc];have hc := bP4 N;by_cases h1 : N / 128 = 0
  ·rw [h1, aR3]
   show tkc m true 0 i (dig7 N :: r) = _
   rw [cL1 (by omega) (by omega) (by omega), if_neg (by omega)];have : 0 * 128 + (dig7 N).toNat % 128 = N := by omega
   rw [this]
   rfl
  rw [ih (N / 128) (by omega) h1 (by omega)];show tkc m false (N / 128) (i + (bS6 (N / 128)).length) (dig7 N :: r) = _
  rw [cL1 (by simp) (by omega) (by omega), if_neg (by omega)];have : N / 128 * 128 + (dig7 N).toNat % 128 = N := by omega
  rw [this, lT]
  rfl
theorem cD2 {m n : Nat} (h : n <= m) (b : List UInt8) : cnt m (enc n ++ b) = (n, (enc n).length, 0) := by
 unfold cnt enc;rw [List.append_assoc];have hc := bQ8 n;by_cases h0 : n / 128 = 0
 ·rw [h0, aR3]
  show tkc m true 0 0 (low7 n :: b) = _
  rw [cL1 (by omega) (by omega) (by omega), if_pos (by omega)];have : 0 * 128 + (low7 n).toNat % 128 = n := by omega
  rw [this]
  rfl
 rw [dG1 m b 0 (n / 128) h0 (by omega)];show tkc m false (n / 128) (0 + (bS6 (n / 128)).length) (low7 n :: b) = _
 rw [cL1 (by simp) (by omega) (by omega), if_pos (by omega)];have : n / 128 * 128 + (low7 n).toNat % 128 = n := by omega
 rw [this];simp
theorem dG2 (m : Nat) (l : List UInt8) : ∀ (f : Bool) (n i : Nat) (v u : Nat), (f = true ∧ n = 0) ∨ (f = false ∧ n ≠ 0) -> tkc m f n i l = (v, u, 0) -> i < u ∧ u - i <= l.length ∧ bS6 n ++ l.take (u - i) = enc v := by
 induction l with
 | nil => intro f n i v u _ h; simp [tkc] at h
 | cons c r ih =>
  intro f n i v u hf h;rw [tkc] at h;split at h
  ·simp at h
  rename_i hb
  simp only [Bool.or_eq_true, Bool.and_eq_true, decide_eq_true_eq, beq_iff_eq, not_or, not_and] at hb;have a8 := c.toNat_lt;split at h
  ·rename_i hc
   simp only [Prod.mk.injEq] at h;obtain ⟨rfl, rfl, _⟩ := h;refine ⟨by omega, by simp, ?_⟩;rw [show i + 1 - i = 1 by omega];unfold enc;have h1 : (n * 128 + c.toNat % 128) / 128 = n := by omega
   rw [h1]
   congr 1
   show [c] = _
   congr 1
   apply cZ5
   rw [bQ8];omega
  rename_i hc
  have a7 : n * 128 + c.toNat % 128 ≠ 0 := by
   rcases hf with ⟨rfl, rfl⟩ | ⟨_, hn⟩
   ·have h1 := hb.1.1 rfl
    intro h2;apply h1
    apply cZ5
    show c.toNat = 128
    omega
   omega
  obtain ⟨h1, h2, h3⟩ := ih false _ (i + 1) v u (.inr ⟨rfl, a7⟩) h;refine ⟨by omega, by simp; omega, ?_⟩;rw [bG9 _ a7, show (n * 128 + c.toNat % 128) / 128 = n by omega, List.append_assoc] at h3;have hd : dig7 (n * 128 + c.toNat % 128) = c := by
   apply cZ5
   rw [bP4];omega
  rw [hd] at h3;rw [show u - i = (u - (i + 1)) + 1 by omega, List.take_succ_cons];exact h3
theorem cI1 {m : Nat} {l : List UInt8} (h : (cnt m l).2.2 = 0) : 0 < (cnt m l).2.1 ∧ (cnt m l).2.1 <= l.length ∧ l.take (cnt m l).2.1 = enc (cnt m l).1 := by
 have := dG2 m l true 0 0 (cnt m l).1 (cnt m l).2.1 (.inl ⟨rfl, rfl⟩) (by
  show cnt m l = _
  rw [<- h])
 rw [aR3] at this
 simpa using this
theorem cG8 (n : Int) : aI4 (fold1 n) = n := by
 unfold fold1;split <;> unfold aI4 <;> split <;> omega
end Go.Proofs.YtgeofijddhflaaaGreatDoor.Oct
namespace Go.Proofs.YtgeofijddhflaaaGreatDoor
open Go.RowKit
theorem cY0 {k : IntKind} {a b : Int} (h : a = b) : Ending.returned (.int k a) = .returned (.int k b) := by rw [h]
theorem dP5 {a a' b b' c c' : Value} (h1 : a = a') (h2 : b = b') (h3 : c = c') : Ending.returned (.tuple #[a, b, c]) = .returned (.tuple #[a', b', c']) := by rw [h1, h2, h3]
theorem aC5 (a : Addr) (n : Nat) : (a.add n).block = a.block := by unfold Addr.add; split <;> rfl
theorem cL4 (a : Addr) (i j : Nat) : (a.add i).add j = a.add (i + j) := by
 unfold Addr.add;by_cases hi : i = 0 <;> by_cases hj : j = 0 <;> simp [hi, hj, Nat.add_assoc]
theorem aA4 {B : Nat} {a w : World} (h : Below B a w) (n : Nat) : Below B a (w.drewN n) := ⟨h.os, h.tape, h.output, h.size, h.block⟩
theorem aG5 {w w' : World} (h : w.grownBy w' none) : Below w.heap.size w w' := ⟨h.os, h.tape, h.output, h.size, fun k hk => h.block k hk (by simp)⟩
theorem aA5 {w w' : World} (h : Below w.heap.size w w') (row : Option Nat) : w.grownBy w' row := ⟨h.os, h.tape, h.output, h.size, fun i hi _ => h.block i hi⟩
theorem aB8 {w w1 w2 : World} {r r1 : Option Nat} (h : w.grownBy w1 r) (k : w1.grownBy w2 r1) (hr : r1 = r ∨ ∃ g, r1 = some g ∧ w.heap.size <= g) : w.grownBy w2 r :=
 ⟨k.os.trans h.os, k.tape.trans h.tape, k.output.trans h.output, Nat.le_trans h.size k.size, fun i hi hne => by
  refine (k.block i (Nat.lt_of_lt_of_le hi h.size) ?_).trans (h.block i hi hne);rcases hr with rfl | ⟨g, rfl, hg⟩
  ·exact hne
  simp; omega⟩
theorem aM7 {a w : World} {row : Option Nat} (h : a.grownBy w row) (n : Nat) : a.grownBy (w.drewN n) row := ⟨h.os, h.tape, h.output, h.size, h.block⟩
theorem aG7 {a w : World} {row : Option Nat} {n : Nat} (h : (a.drewN n).grownBy w row) : a.grownBy w row := ⟨h.os, h.tape, h.output, h.size, h.block⟩
def Rd (w : World) (B : Nat) (A : Option Addr) (xs : List Value) : Prop :=
 0 < xs.length -> ∃ ad, A = some ad ∧ ad.block < B ∧ ∀ j u, xs[j]? = some u -> w.cell? (ad.add j) = some u
section
variable {w w' : World} {B B' : Nat} {A : Option Addr} {xs : List Value}
theorem Rd.none_ : Rd w B A [] := fun h => absurd h (by simp)
theorem Rd.at_ {k : Nat} (h : Rd w B A xs) (hk : k < xs.length) : ∃ ad, A = some ad ∧ ad.block < B ∧ w.cell? (ad.add k) = some xs[k] := by
 obtain ⟨ad, e, hb, hc⟩ := h (by omega);exact ⟨ad, e, hb, hc k _ (lW hk)⟩
theorem Rd.keep (h : Rd w B A xs) (hk : ∀ p : Addr, p.block < B -> w'.cell? p = w.cell? p) : Rd w' B A xs := fun hn => by
 obtain ⟨ad, e, hb, hc⟩ := h hn;exact ⟨ad, e, hb, fun j u hu => (hk _ (by rw [aC5]; exact hb)).trans (hc j u hu)⟩
theorem Rd.more (h : Rd w B A xs) (hB : B <= B') : Rd w B' A xs := fun hn => by
 obtain ⟨ad, e, hb, hc⟩ := h hn;exact ⟨ad, e, by omega, hc⟩
theorem Rd.below (h : Rd w B A xs) (hb : Below B w w') : Rd w' B A xs := h.keep fun _ hp => hb.cell hp
theorem Rd.drewN (h : Rd w B A xs) (k : Nat) : Rd (w.drewN k) B A xs := h
theorem Rd.alloc (h : Rd w B A xs) (hB : B <= w.heap.size) (o : Obj) : Rd (w.alloc o) B A xs := h.keep fun p hp => World.cell?_alloc_lt w o p (by omega)
theorem Rd.grown (h : Rd w B A xs) {row : Option Nat} (hg : w.grownBy w' row) (hB : B <= w.heap.size) (hr : ∀ g, row = some g -> B <= g) : Rd w' B A xs :=
 h.keep fun p hp => World.cell?_of_block (hg.block p.block (by omega) (fun e => by have := hr _ e.symm; omega))
theorem Rd.cut (h : Rd w B A xs) {k cap : Nat} (hk : k <= xs.length) (hc : xs.length <= cap) : Rd w B (if cap = k then A else A.map (·.add k)) (xs.drop k) := fun hn => by
 rw [lZ] at hn;obtain ⟨ad, rfl, hb, hcell⟩ := h (by omega);rw [if_neg (by omega)];refine ⟨ad.add k, rfl, by rw [aC5]; exact hb, fun j u hu => ?_⟩;rw [cL4];exact hcell _ u (by rw [<- hu, List.getElem?_drop])
theorem Rd.take (h : Rd w B A xs) (k : Nat) : Rd w B A (xs.take k) := fun hn => by
 obtain ⟨ad, rfl, hb, hcell⟩ := h (by rw [lV] at hn; omega);refine ⟨ad, rfl, hb, fun j u hu => hcell j u ?_⟩;rw [List.getElem?_take] at hu;split at hu
 ·exact hu
 cases hu
end
theorem bG6 {w : World} {B : Nat} {A : Option Addr} {α : Type} {f : α -> Value} {l : List α} {k : Nat} (h : Rd w B A (l.map f)) (hk : k < l.length) : ∃ ad, A = some ad ∧ ad.block < B ∧ w.cell? (ad.add k) = some (f l[k]) := by
 obtain ⟨ad, h1, h2, h3⟩ := h.at_ (k := k) (by rw [lU]; exact hk);rw [List.getElem_map] at h3;exact ⟨ad, h1, h2, h3⟩
def cutA (A : Option Addr) (lo cap : Nat) : Option Addr := if cap = lo then A else A.map (·.add lo)
theorem Rd.cutA {w : World} {B : Nat} {A : Option Addr} {xs : List Value} (h : Rd w B A xs) {k cap : Nat} (hk : k <= xs.length) (hc : xs.length <= cap) : Rd w B (cutA A k cap) (xs.drop k) := h.cut hk hc
theorem aS2 {P : Program} {e : TypeId} {i : TypeInfo} (hi : P.info? e = some i) (hz : i.size = 1) (w : World) : (sizeOf e).run P w = .ok 1 w := by
 simp [sizeOf, typeInfo, hi, hz]
section
variable {P : Program} {T e : TypeId} {z : Value} {bytes : Nat} (ht : P.underlying T = some (.slice e)) (hinfo : (P.info? e).map (fun i => (i.zero, i.size, i.bytes)) = some (some z, 1, bytes))
include ht hinfo
theorem bM5 (A : Option Addr) (len cap lo hi : Nat) (h1 : lo <= hi) (h2 : hi <= cap) (X Y : Int) (hX : X = (lo : Int)) (hY : Y = (hi : Int)) (w : World) :
  (Instr.slice T (.slice A len cap) (some (.int .i64 X)) (some (.int .i64 Y)) none).run P w = .ok (.slice (cutA A lo cap) (hi - lo) (cap - lo)) w := by
 obtain ⟨i, a8, hz, a7, a9⟩ := info_parts hinfo;subst hX; subst hY;rw [run_slice_lh w T A len cap (by rw [ht]; simp [Program.elem, ht]) .i64 .i64 lo hi (by omega) (by omega) (by omega)];have he : P.elem T = e := by simp [Program.elem, ht]
 rw [he, aS2 a8 a7];simp [sliced, Go.Proofs.YtgeofijddhflaaaGreatDoor.cutA, Result.andThen]
theorem aO1 (A : Option Addr) (len cap lo : Nat) (h1 : lo <= len) (X : Int) (hX : X = (lo : Int)) (w : World) :
  (Instr.slice T (.slice A len cap) (some (.int .i64 X)) none none).run P w = .ok (.slice (cutA A lo cap) (len - lo) (cap - lo)) w := by
 obtain ⟨i, a8, hz, a7, a9⟩ := info_parts hinfo;subst hX;rw [run_slice_l w T A len cap (by rw [ht]; simp [Program.elem, ht]) .i64 lo (by omega) (by omega)];have he : P.elem T = e := by simp [Program.elem, ht]
 rw [he, aS2 a8 a7];simp [sliced, Go.Proofs.YtgeofijddhflaaaGreatDoor.cutA, Result.andThen]
end
def Own (w : World) (base : Nat) (e : TypeId) (v : Value) (xs : List Value) : Prop := w.ownsRow base e 1 v xs.length xs
def aS5 (v : Value) (r : Option Nat) (n : Nat) : Prop := v.ownBlock = r ∨ ∃ g, v.ownBlock = some g ∧ n <= g
theorem bP8 {v v1 : Value} {r : Option Nat} {n m : Nat} (h : aS5 v r n) (k : aS5 v1 v.ownBlock m) (hm : n <= m) : aS5 v1 r n := by
 rcases k with k | ⟨g, k, hg⟩
 ·unfold aS5; rw [k]; exact h
 exact .inr ⟨g, k, by omega⟩
section
variable {w w' : World} {base : Nat} {e : TypeId} {v : Value} {xs : List Value}
theorem Own.nil (w : World) (base : Nat) (e : TypeId) : Own w base e (.slice none 0 0) [] := World.ownsRow_nil w base e 1
theorem Own.lt (h : Own w base e v xs) : ∀ k, v.ownBlock = some k -> base <= k ∧ k < w.heap.size := World.ownsRow.lt h
theorem Own.kept {row : Option Nat} (h : Own w base e v xs) (hg : w.grownBy w' row) (hne : v.ownBlock = none ∨ v.ownBlock ≠ row) : Own w' base e v xs := World.ownsRow.kept h hg hne
theorem Own.below (h : Own w base e v xs) {B : Nat} (hb : Below B w w') (hB : w.heap.size <= B) : Own w' base e v xs :=
 Own.kept h (row := none) (aA5 (hb.mono hB) none) (by cases v.ownBlock <;> simp)
theorem Own.far {g : Nat} (h : Own w base e v xs) (hg : w.grownBy w' (some g)) (a7 : g < base) : Own w' base e v xs := by
 refine Own.kept h hg (.inr fun hv => ?_);have := (h.lt g hv).1;omega
theorem Own.alloc (h : Own w base e v xs) (o : Obj) : Own (w.alloc o) base e v xs := World.ownsRow.alloc h o
theorem Own.drewN (h : Own w base e v xs) (n : Nat) : Own (w.drewN n) base e v xs := h
theorem Own.mono {base' : Nat} (h : Own w base e v xs) (hb : base' <= base) : Own w base' e v xs := by
 obtain ⟨h1, h2⟩ := h;refine ⟨h1, ?_⟩;rcases h2 with h2 | ⟨g, cap, a7, hv, hg, r⟩
 ·exact .inl h2
 exact .inr ⟨g, cap, a7, hv, by omega, r⟩
theorem Own.shape (h : Own w base e v xs) : ∃ A c, v = .slice A xs.length c ∧ xs.length <= c ∧ c <= maxLen ∧ Rd w w.heap.size A xs := by
 obtain ⟨h1, h2⟩ := id h;rcases h2 with ⟨rfl, h0⟩ | ⟨g, cap, a7, rfl, hb, hg, hn, hc, hs, ht⟩
 ·have hx : xs = [] := mD h0
  subst hx;exact ⟨none, 0, rfl, lR _, Nat.zero_le _, Rd.none_⟩
 refine ⟨_, cap, rfl, hn, hc, fun _ => ⟨_, rfl, (Array.getElem?_eq_some_iff.1 hg).1, World.ownsRow.cells h rfl⟩⟩
theorem Own.whole (h : Own w base e v xs) : (v = .slice none 0 0 ∧ xs = []) ∨ ∃ g cap a7, v = .slice (some ⟨g, 0, none⟩) xs.length cap ∧ base <= g ∧ g < w.heap.size ∧ w.heap[g]? = some (.cells a7 e (0, 0)) ∧
  xs.length <= cap ∧ cap <= maxLen ∧ a7.size = cap ∧ a7.toList.take xs.length = xs := by
 obtain ⟨h1, h2⟩ := id h;rcases h2 with ⟨rfl, h0⟩ | ⟨g, cap, a7, rfl, hb, hg, hn, hc, hs, ht⟩
 ·exact .inl ⟨rfl, mD h0⟩
 exact .inr ⟨g, cap, a7, rfl, hb, (Array.getElem?_eq_some_iff.1 hg).1, hg, hn, hc, by omega, by simpa using ht⟩
end
def Blk (w : World) (g : Nat) (t : TypeId) (cs : Array Value) : Prop := w.heap[g]? = some (.cells cs t (0, 0))
section
variable {w w' : World} {g : Nat} {t : TypeId} {cs : Array Value}
theorem Blk.lt (h : Blk w g t cs) : g < w.heap.size := (Array.getElem?_eq_some_iff.1 h).1
theorem Blk.cell (h : Blk w g t cs) (i : Nat) : w.cell? ⟨g, i, none⟩ = cs[i]? := cell_of_row w g i cs t (0, 0) h
theorem Blk.frozen (h : Blk w g t cs) (i : Nat) : w.frozen? ⟨g, i, none⟩ = false := by
 unfold Blk at h;simp [World.frozen?, h]
theorem Blk.new (w : World) (t : TypeId) (cs : Array Value) : Blk (w.alloc (.cells cs t)) w.heap.size t cs := heap_alloc_new w _
theorem Blk.drewN (h : Blk w g t cs) (n : Nat) : Blk (w.drewN n) g t cs := h
theorem Blk.alloc (h : Blk w g t cs) (o : Obj) : Blk (w.alloc o) g t cs := (Below.heap_alloc w o g h.lt).trans h
theorem Blk.set_ (h : Blk w g t cs) (i : Nat) (u : Value) : Blk (w.setCell ⟨g, i, none⟩ u) g t (cs.setIfInBounds i u) := by
 unfold Blk at h ⊢;simp [World.setCell, Array.getElem?_modify, h]
theorem Blk.far (h : Blk w g t cs) {p : Addr} (hp : g ≠ p.block) (u : Value) : Blk (w.setCell p u) g t cs := (Below.heap_setCell w p u g hp).trans h
theorem Blk.below {B : Nat} (h : Blk w g t cs) (hb : Below B w w') (hg : g < B) : Blk w' g t cs := (hb.block g hg).trans h
theorem Blk.grown {row : Option Nat} (h : Blk w g t cs) (hb : w.grownBy w' row) (hg : some g ≠ row) : Blk w' g t cs := (hb.block g h.lt hg).trans h
end
theorem aA0 (w : World) (g i : Nat) (u : Value) : w.grownBy (w.setCell ⟨g, i, none⟩ u) (some g) :=
 ⟨rfl, rfl, rfl, by simp [World.setCell], fun k hk hne => Below.heap_setCell _ _ _ _ (by rintro rfl; exact hne rfl)⟩
section
variable {P : Program} {w : World}
theorem bD4 (base : Nat) (t ty e : TypeId) (i : TypeInfo) (ht : P.underlying t = some (.slice e)) (hi : P.info? e = some i)
  (v : Value) (xs : List Value) (a7 : Own w base e v xs) (c : Nat) : (Builtin.append_ #[t, t] ty #[v, .slice none 0 c]).run P w = .ok v w := by
 rcases a7.2 with ⟨rfl, hn⟩ | ⟨g, cap, a9, rfl, _, _, a8, _⟩
 ·simp [Builtin.append_, run_underlying ht, sizeOf, typeInfo, hi, Builtin.lenOf, Builtin.firstCells]
 simp [Builtin.append_, run_underlying ht, sizeOf, typeInfo, hi, Builtin.lenOf, Builtin.firstCells, a8, storeCells]
theorem bO6 (base : Nat) (t ty e : TypeId) (z : Value) (bytes : Nat) (ht : P.underlying t = some (.slice e)) (d8 : (P.info? e).map (fun i => (i.zero, i.size, i.bytes)) = some (some z, 1, bytes)) (g6 : z.cells.size = 1)
  (v : Value) (xs : List Value) (a9 : Own w base e v xs)
  (B : Nat) (A : Option Addr) (m c : Nat) (news : List Value) (hm : m = news.length) (hr : Rd w B A news) (h1 : ∀ u ∈ news, u.oneCell' = true)
  (f8 : xs.length + m <= maxLen) (a7 : (xs.length + m) * bytes <= 140737488355328) (b8 : base <= w.heap.size) :
  ∃ v' w', (Builtin.append_ #[t, t] ty #[v, .slice A m c]).run P w = .ok v' w' ∧ Own w' base e v' (xs ++ news) ∧ w.grownBy w' v.ownBlock ∧ aS5 v' v.ownBlock w.heap.size := by
 obtain ⟨i, hi, hz, e9, f9⟩ := info_parts d8;subst hm;rcases A with _ | ad
 ·have hm : news = [] := by
   rcases Nat.eq_zero_or_pos news.length with h0 | h0
   ·exact mD h0
   obtain ⟨ad, h, _⟩ := hr h0;cases h
  subst hm;exact ⟨v, w, bD4 base t ty e i ht hi v xs a9 c, by simpa using a9, World.grownBy.refl w _, .inl rfl⟩
 have a8 : ∀ j u, news[j]? = some u -> w.cell? (ad.add j) = some u := by
  intro j u hu;rcases Nat.eq_zero_or_pos news.length with h0 | h0
  ·have hn : news = [] := mD h0
   subst hn;simp at hu
  obtain ⟨g7, h, _, hc⟩ := hr h0;injection h with h
  subst h;exact hc j u hu
 obtain ⟨v', w', f7, h2, h3, _, h5⟩ := run_append_own_at (P := P) w base t ty e i z 1 bytes ht hi hz e9 f9 g6 (by omega) v xs.length xs a9 ad news.length c news (by simp) a8 h1 f8 a7 b8;refine ⟨v', w', f7, ?_, h3, ?_⟩
 ·unfold Own; rw [lT]; exact h2
 rcases h5 with h5 | h5
 ·exact .inl h5
 exact .inr ⟨_, h5, lR _⟩
theorem aM2 {o : Oper} {a : Act} {K : Act -> World -> Prop} {Q : Exit -> Act -> World -> Prop} (s x : Operand) (t : TypeId)
  (ho : o.op = .call { callee := .builtin .append, args := #[s, x], argTypes := #[t, t] })
  (base : Nat) (e : TypeId) (z : Value) (bytes : Nat) (ht : P.underlying t = some (.slice e)) (a9 : (P.info? e).map (fun i => (i.zero, i.size, i.bytes)) = some (some z, 1, bytes)) (f7 : z.cells.size = 1)
  (v : Value) (xs : List Value) (hs : a.eval s = v) (b8 : Own w base e v xs)
  (B : Nat) (A : Option Addr) (m c : Nat) (news : List Value) (hx : a.eval x = .slice A m c) (hm : m = news.length) (hr : Rd w B A news) (h1 : ∀ u ∈ news, u.oneCell' = true)
  (e9 : xs.length + m <= maxLen) (a7 : (xs.length + m) * bytes <= 140737488355328) (a8 : base <= w.heap.size)
  (h : ∀ v' w', Own w' base e v' (xs ++ news) -> w.grownBy w' v.ownBlock -> aS5 v' v.ownBlock w.heap.size -> K (a.put o.dst v') w') : o.wp P a w K Q := by
 obtain ⟨v', w', d8, h2, h3, h4⟩ := bO6 (P := P) base t o.type e z bytes ht a9 f7 v xs b8 B A m c news hm hr h1 e9 a7 a8;unfold Oper.wp execOp;simp only [ho, resolve, invoke, builtin, Sem.run_bind, Sem.run_pure, Result.andThen_ok, List.map_toArray, mG, List.map_nil, hs, hx, d8];exact h v' w' h2 h3 h4
theorem aB5 {ops : Array Oper} {rest : List Oper} {o : Oper} {a : Act} {Q : Exit -> Act -> World -> Prop} (hgd : o.guard = none) (s x : Operand) (t : TypeId)
  (ho : o.op = .call { callee := .builtin .append, args := #[s, x], argTypes := #[t, t] })
  (base : Nat) (e : TypeId) (z : Value) (bytes : Nat) (ht : P.underlying t = some (.slice e)) (hinfo : (P.info? e).map (fun i => (i.zero, i.size, i.bytes)) = some (some z, 1, bytes)) (hzs : z.cells.size = 1)
  (v : Value) (xs : List Value) (hs : a.eval s = v) (hown : Own w base e v xs)
  (B : Nat) (A : Option Addr) (m c : Nat) (news : List Value) (hx : a.eval x = .slice A m c) (hm : m = news.length) (hr : Rd w B A news) (h1 : ∀ u ∈ news, u.oneCell' = true)
  (h63 : xs.length + m <= maxLen) (hbytes : (xs.length + m) * bytes <= 140737488355328) (hbase : base <= w.heap.size)
  (h : ∀ v' w', Own w' base e v' (xs ++ news) -> w.grownBy w' v.ownBlock -> aS5 v' v.ownBlock w.heap.size -> wpList P ops Q rest (a.put o.dst v') w') : wpList P ops Q (o :: rest) a w :=
 wpList_plain hgd fun _ hK => aM2 s x t ho base e z bytes ht hinfo hzs v xs hs hown B A m c news hx hm hr h1 h63 hbytes hbase fun v' w' h2 h3 h4 => hK _ _ (h v' w' h2 h3 h4)
theorem aZ4 {ops : Array Oper} {rest : List Oper} {o : Oper} {a : Act} {Q : Exit -> Act -> World -> Prop} (e9 : o.guard = none) (s x : Operand) (t : TypeId)
  (ho : o.op = .call { callee := .builtin .append, args := #[s, x], argTypes := #[t, t] })
  (base : Nat) (e : TypeId) (z : Value) (bytes : Nat) (ht : P.underlying t = some (.slice e)) (a8 : (P.info? e).map (fun i => (i.zero, i.size, i.bytes)) = some (some z, 1, bytes)) (f7 : z.cells.size = 1)
  (v : Value) (xs : List Value) (u u' : Value) (hu : u = u') (hs : a.eval s = v) (b8 : Own w base e v xs)
  (hx : a.eval x = .slice (some ⟨w.heap.size, 0, none⟩) 1 1) (h1 : u.oneCell' = true)
  (a9 : xs.length + 1 <= 9223372036854775807) (a7 : (xs.length + 1) * bytes <= 140737488355328) (d8 : base <= w.heap.size)
  (h : ∀ v' w', Own w' base e v' (xs ++ [u']) -> w.grownBy w' v.ownBlock -> aS5 v' v.ownBlock w.heap.size -> wpList P ops Q rest (a.put o.dst v') w') : wpList P ops Q (o :: rest) a (w.alloc (.cells #[u] e)) := by
 subst hu;refine aB5 e9 s x t ho base e z bytes ht a8 f7 v xs hs (b8.alloc _) (w.heap.size + 1) (some ⟨w.heap.size, 0, none⟩) 1 1 [u] hx rfl ?_ (by simpa using h1) (by simpa [maxLen] using a9) a7 (by simp; omega) ?_
 ·intro _
  refine ⟨_, rfl, by simp, fun j x hj => ?_⟩
  match j, hj with
  | 0, hj =>
   simp at hj
   subst hj;rw [show (⟨w.heap.size, 0, none⟩ : Addr).add 0 = ⟨w.heap.size, 0, none⟩ from rfl, World.cell?_alloc_at _ _ _ _ rfl]
   rfl
 intro v' w' h2 h3 h4;refine h v' w' h2 ?_ ?_
 ·exact ⟨h3.os, h3.tape, h3.output, Nat.le_trans (by simp) h3.size, fun k hk hne => (h3.block k (by simp; omega) hne).trans (Below.heap_alloc _ _ _ hk)⟩
 rcases h4 with h4 | ⟨g, h4, hg⟩
 ·exact .inl h4
 exact .inr ⟨g, h4, by simp at hg; omega⟩
end
end Go.Proofs.YtgeofijddhflaaaGreatDoor
namespace Go.Proofs.YtgeofijddhflaaaGreatDoor
open Go.RowKit Oct
def str (l : List UInt8) : ByteArray := ⟨l.toArray⟩
theorem cL0 (l : List UInt8) : (str l).data.toList = l := rfl
theorem aP0 (l : List UInt8) : (str l).size = l.length := rfl
theorem dJ6 (s : ByteArray) (n i : Nat) (r : List UInt8) (h : s.size - i = n) : ByteArray.toList.loop s i r = r.reverse ++ s.data.toList.drop i := by
 induction n generalizing i r with
 | zero =>
  unfold ByteArray.toList.loop;have a9 : ¬ i < s.size := by omega
  simp [a9]
  show s.data.size <= i
  have : s.data.size = s.size := rfl;omega
 | succ n ih =>
  unfold ByteArray.toList.loop;have a7 : i < s.size := by omega
  have a8 : i < s.data.toList.length := by simpa using a7
  simp [a7]
  rw [ih (i+1) _ (by omega)];simp
  rw [List.drop_eq_getElem_cons a8]
  congr 1
  have h2 : i < s.data.size := a7;have e : s.get! i = s.data[i]! := by cases s; rfl
  rw [e];rw [getElem!_pos s.data i h2];simp
theorem toList_eq (s : ByteArray) : s.toList = s.data.toList := by
 unfold ByteArray.toList;rw [dJ6 s s.size 0 [] (by omega)];simp
theorem bR6 (l : List UInt8) : (str l).toList = l := by rw [toList_eq]; rfl
theorem dK9 {P : Program} {w : World} {B : Nat} {A : Option Addr} {l : List UInt8} (src dst e : TypeId) (hs : P.underlying src = some (.slice e)) (he : P.underlying e = some (.int .u8)) (hd : P.underlying dst = some .string)
  (n c : Nat) (hn : n = l.length) (h : Rd w B A (cells l)) :
  (convert src dst (.slice A n c)).run P w = .ok (.string (str l)) w := by
 subst hn;rw [run_convert_bytes_string w src dst e A _ _ hs he hd];rcases A with _ | a
 ·have hl : l = [] := by
   rcases Nat.eq_zero_or_pos l.length with h0 | h0
   ·exact mD h0
   obtain ⟨ad, h, _⟩ := h (by rw [aA2]; exact h0);cases h
  subst hl;simp [Conv.bytesToString, Sem.run_pure]
  rfl
 have hc : (loadCells a l.length).run P w = .ok ((l.map fun b => (b.toNat : Int)).map (Value.int .u8)).toArray w := by
  have a7 : ∀ j u, (cells l)[j]? = some u -> w.cell? (a.add j) = some u := by
   intro j u hu;rcases Nat.eq_zero_or_pos l.length with h0 | h0
   ·have hn : l = [] := mD h0
    subst hn;simp [cells] at hu
   obtain ⟨a8, h, _, hc⟩ := h (by rw [aA2]; exact h0);injection h with h
   subst h;exact hc j u hu
  have := run_loadCells_list (P := P) (w := w) a (cells l) a7;rw [aA2] at this;rw [this];simp [cells]
 rw [run_bytesToString w a l.length c _ hc, foldl_push_bytes]
 congr 2
 simp only [str, List.map_map];simp
 have hf : ((fun n : Int => UInt8.ofNat n.toNat) ∘ fun b : UInt8 => (b.toNat : Int)) = id := by
  funext b
  simp
 rw [hf, List.map_id]
end Go.Proofs.YtgeofijddhflaaaGreatDoor
namespace Go.Proofs.YtgeofijddhflaaaGreatDoor
section
variable {P : Program} {md : Region.Mode} {Q : Exit -> Act -> World -> Prop} {S S' : World -> Prop} {l : List Oper}
theorem aC4 (i : Nat) {v : Value} {fuel : Nat} {listed : Array Bool} {a : Act} {w : World} (hlt : i < l.length)
  (hs : Region.noSelect l.toArray = true) (hf : Region.free md l.toArray listed i = true) (hr : (Region.ready md l.toArray listed).contains i = true)
  (hQ : ∀ c a w, Q (.panic c) (a.put l[i].dst v) w -> Q (.panic c) a w) (hy : YieldsIf P l.toArray S l[i] v a) (hS : S w)
  (h : wpAnyH P md l.toArray Q S fuel (listed.setIfInBounds i true) (a.put l[i].dst v) w) : wpAnyH P md l.toArray Q S (fuel + 1) listed a w :=
 wpAnyH_take (oi := l[i]) (v := v) (by rw [List.getElem?_toArray, lW hlt]) hs hf hr hQ hy hS h
theorem bY3 (i : Nat) {fuel : Nat} {listed : Array Bool} {a : Act} {w : World} (hlt : i < l.length) (hr : Region.ready md l.toArray listed = [i])
  (h : ∀ K' : Act -> World -> Prop, Shut (∀ a w, S w -> (S w -> wpAnyH P md l.toArray Q S fuel (listed.setIfInBounds i true) a w) -> K' a w) -> if Region.wanted l[i] (yielded l.toArray a.tmps) = true then Oper.wp P l[i] a w K' Q else K' (a.put l[i].dst undef) w) : wpAnyH P md l.toArray Q S (fuel + 1) listed a w :=
 wpAnyH_ready hr (by simp) (AllReadyH.cons (by rw [List.getElem?_toArray, lW hlt]) h AllReadyH.nil)
end
end Go.Proofs.YtgeofijddhflaaaGreatDoor
namespace Go.Proofs.YtgeofijddhflaaaGreatDoor
section
variable {P : Program} {ops : Array Oper} {Q : Exit -> Act -> World -> Prop} {md : Region.Mode} {S : World -> Prop} {t : Nat}
def aJ0 (P : Program) (md : Region.Mode) (ops : Array Oper) (Q : Exit -> Act -> World -> Prop) (S : World -> Prop) (t : Nat) : Nat -> Array Bool -> Act -> World -> Prop
 | 0, listed, a, w => Region.ready md ops listed = [] ∧ Q .normal a w
 | fuel + 1, listed, a, w =>
  (Region.ready md ops listed = [] -> Q .normal a w) ∧
  ∀ i ∈ Region.ready md ops listed, wpOp P ops Q i (fun a' w' => (i ≠ t -> S w') ∧ aJ0 P md ops Q S t fuel (listed.setIfInBounds i true) a' w') a w
theorem bR7 : ∀ (fuel : Nat) (listed : Array Bool) (a : Act) (w : World), aJ0 P md ops Q S t fuel listed a w -> wpAny P md ops Q fuel listed a w
 | 0, _, _, _, h => h
 | fuel + 1, _, _, _, h => ⟨h.1, fun i hi => wpOp_mono (fun a' w' h' => bR7 fuel _ a' w' h'.2) (h.2 i hi)⟩
def aQ8 (md : Region.Mode) (ops : Array Oper) (t i : Nat) : Bool := match ops[t]? with | some o => o.after.any (fun e => Region.binds md e && e.on == i) | none => true
theorem bA8 {i : Nat} {listed : Array Bool} (h : aQ8 md ops t i = true) (hi : listed.getD i true = false) : t ∉ Region.ready md ops listed := by
 intro hr;obtain ⟨_, ot, a8, a7⟩ := mem_ready.1 hr;unfold aQ8 at h;rw [a8] at h;simp only [Array.any_eq_true] at h;obtain ⟨k, hk, he⟩ := h;simp only [Bool.and_eq_true, beq_iff_eq] at he;have h1 := a7 _ (Array.getElem_mem hk) he.1;rw [he.2] at h1;rcases Nat.lt_or_ge i listed.size with h' | h'
 ·simp [h'] at hi h1; rw [hi] at h1; cases h1
 simp [Array.getElem?_eq_none h'] at hi
theorem cB9 {i : Nat} {oi : Oper} {v : Value} (hi : ops[i]? = some oi) (e9 : ∀ (j : Nat) (o : Oper) cs b, ops[j]? = some o -> o.op ≠ .select cs b) (g7 : aQ8 md ops t i = true)
  (hQ : ∀ c a w, Q (.panic c) (a.put oi.dst v) w -> Q (.panic c) a w) :
  ∀ (a8 : Nat) (a7 : Array Bool) (a : Act) (w : World),
   (∀ j oj, ops[j]? = some oj -> j ≠ i -> a7.getD j true = false -> (∀ e ∈ oj.after, Region.binds md e = true -> e.on ≠ i) -> oi.apart ops oj = true) →
   i ∈ Region.ready md ops a7 -> YieldsIf P ops S oi v a -> S w →
   aJ0 P md ops Q S t a8 (a7.setIfInBounds i true) (a.put oi.dst v) w -> aJ0 P md ops Q S t (a8 + 1) a7 a w := by
 intro a8;induction a8 with
 | zero =>
  intro a7 a w _ hr hy hS H;refine ⟨fun h => (by rw [h] at hr; cases hr), fun j hj => ?_⟩;by_cases hji : j = i
  ·subst hji; exact hy.wpOp hi hS ⟨fun _ => hS, H⟩
  have := ready_mono hj hji;rw [H.1] at this;cases this
 | succ a8 ih =>
  intro a7 a w a9 hr hy hS H;refine ⟨fun h => (by rw [h] at hr; cases hr), fun j hj => ?_⟩;by_cases hji : j = i
  ·subst hji; exact hy.wpOp hi hS ⟨fun _ => hS, H⟩
  have g6 : j ≠ t := fun e => bA8 g7 (mem_ready.1 hr).1 (e ▸ hj)
  have h1 := H.2 j (ready_mono hj hji);obtain ⟨d8, oj, f9, f7⟩ := mem_ready.1 hj;have f8 : ∀ e ∈ oj.after, Region.binds md e = true -> e.on ≠ i := fun e he hb heq => by
   have h1 := f7 e he hb;have h0 := (mem_ready.1 hr).1;rw [heq] at h1;rcases Nat.lt_or_ge i a7.size with h' | h'
   ·simp [h'] at h0 h1; rw [h0] at h1; cases h1
   simp [Array.getElem?_eq_none h'] at h1
  have h2 := wpOp_putIf f9 (a9 j oj f9 hji d8 f8) (fun cs b => e9 i oi cs b hi) (fun cs b => e9 j oj cs b f9) hQ hy h1;have b8 : ∀ k ok, ops[k]? = some ok -> k ≠ i -> (a7.setIfInBounds j true).getD k true = false →
    (∀ e ∈ ok.after, Region.binds md e = true -> e.on ≠ i) -> oi.apart ops ok = true := fun k ok hk hki hun hno => by
   refine a9 k ok hk hki ?_ hno;by_cases hjk : j = k
   ·subst hjk; exact d8
   rw [getD_set_ne true hjk] at hun; exact hun
  refine wpOp_mono (fun a' w' h3 => ⟨h3.2.1, ih (a7.setIfInBounds j true) a' w' b8 (ready_mono hr (Ne.symm hji)) h3.1 (h3.2.1 g6) ?_⟩) h2;rw [Array.setIfInBounds_comm _ _ hji];exact h3.2.2
theorem cG9 {listed : Array Bool} {a : Act} {w : World} (hr : Region.ready md ops listed = []) (h : Q .normal a w) :
  ∀ fuel, aJ0 P md ops Q S t fuel listed a w
 | 0 => ⟨hr, h⟩
 | _ + 1 => ⟨fun _ => h, by rw [hr]; simp⟩
end
section
variable {P : Program} {md : Region.Mode} {Q : Exit -> Act -> World -> Prop} {S S' : World -> Prop} {l : List Oper} {t : Nat}
theorem aP2 (i : Nat) {v : Value} {fuel : Nat} {listed : Array Bool} {a : Act} {w : World} (a7 : i < l.length)
  (hs : Region.noSelect l.toArray = true) (hf : Region.free md l.toArray listed i = true) (hr : (Region.ready md l.toArray listed).contains i = true) (a8 : aQ8 md l.toArray t i = true)
  (hQ : ∀ c a w, Q (.panic c) (a.put l[i].dst v) w -> Q (.panic c) a w) (hy : YieldsIf P l.toArray S l[i] v a) (hS : S w)
  (h : aJ0 P md l.toArray Q S t fuel (listed.setIfInBounds i true) (a.put l[i].dst v) w) : aJ0 P md l.toArray Q S t (fuel + 1) listed a w := by
 have hi : l.toArray[i]? = some l[i] := by rw [List.getElem?_toArray, lW a7]
 exact cB9 hi (Region.noSelect_spec hs) a8 hQ fuel listed a w (Region.free_spec hi hf) (by simpa using hr) hy hS h
theorem cM4 (i : Nat) {fuel : Nat} {listed : Array Bool} {a : Act} {w : World} (hlt : i < l.length) (hr : Region.ready md l.toArray listed = [i])
  (h : ∀ K' : Act -> World -> Prop, Shut (∀ a w, S w -> (S w -> aJ0 P md l.toArray Q S t fuel (listed.setIfInBounds i true) a w) -> K' a w) -> if Region.wanted l[i] (yielded l.toArray a.tmps) = true then Oper.wp P l[i] a w K' Q else K' (a.put l[i].dst undef) w) : aJ0 P md l.toArray Q S t (fuel + 1) listed a w :=
 ⟨fun h0 => absurd (hr ▸ h0) (by simp), fun j hj => by
  rw [hr] at hj;obtain rfl := List.mem_singleton.1 hj;exact wpOp_step (by rw [List.getElem?_toArray, lW hlt]) (fun K' hK => h K' (fun a w hS hW => hK a w ⟨fun _ => hS, hW hS⟩))⟩
theorem aH0 {fuel : Nat} {listed : Array Bool} {a : Act} {w : World} (hlt : t < l.length) (hr : Region.ready md l.toArray listed = [t]) (hr2 : Region.ready md l.toArray (listed.setIfInBounds t true) = [])
  (h : ∀ K' : Act -> World -> Prop, Shut (∀ a w, Q .normal a w -> K' a w) -> if Region.wanted l[t] (yielded l.toArray a.tmps) = true then Oper.wp P l[t] a w K' Q else K' (a.put l[t].dst undef) w) : aJ0 P md l.toArray Q S t (fuel + 1) listed a w :=
 ⟨fun h0 => absurd (hr ▸ h0) (by simp), fun j hj => by
  rw [hr] at hj;obtain rfl := List.mem_singleton.1 hj;exact wpOp_step (by rw [List.getElem?_toArray, lW hlt]) (fun K' hK => h K' (fun a w hW => hK a w ⟨fun e => absurd rfl e, cG9 hr2 hW _⟩))⟩
theorem aD4 {ops : Array Oper} {id : Nat} {a : Act} {w : World} (t : Nat) (hm : P.follows .mixedOrders = true) (hS : S w.drew)
  (h : S w.drew -> aJ0 P .any ops Q S t ops.size (Array.replicate ops.size false) a w.drew) : (Code.region id ops true).wp P Q a w :=
 wp_region_any hm (bR7 _ _ _ _ (h hS))
end
end Go.Proofs.YtgeofijddhflaaaGreatDoor
namespace Go.Proofs.YtgeofijddhflaaaGreatDoor
theorem zA {α : Type} {a : α} {l : List α} (h : 0 < (a :: l).length) : (a :: l)[0]'h = a := rfl
theorem zB {α : Type} (a : α) (l : List α) (i : Nat) (h : i + 1 < (a :: l).length) : (a :: l)[i + 1]'h = l[i]'(Nat.lt_of_succ_lt_succ h) := rfl
theorem zC {α : Type} (l : List α) (i : Nat) (a : α) : l.toArray.setIfInBounds i a = (l.set i a).toArray := List.setIfInBounds_toArray l i a
theorem zD {α : Type} (x a : α) (l : List α) : (x :: l).set 0 a = a :: l := rfl
theorem zE {α : Type} (x a : α) (l : List α) (i : Nat) : (x :: l).set (i + 1) a = x :: l.set i a := rfl
theorem zF (a : Act) (d : Nat) (v : Value) : a.put (some d) v = { a with tmps := a.tmps.setIfInBounds d v } := rfl
theorem zG (a : Act) (v : Value) : a.put none v = a := rfl
section
variable {P : Program} {md : Region.Mode} {Q : Exit → Act → World → Prop} {S : World → Prop} {l : List Oper} {v : Value} {fuel : Nat} {listed : Array Bool} {a : Act} {w : World}
theorem zT (i : Nat) (lt : i < l.length := by simp) (s : S w := by assumption) (ns : Region.noSelect l.toArray = true := by kernel_rfl) (fr : Region.free md l.toArray listed i = true := by kernel_rfl) (rd : (Region.ready md l.toArray listed).contains i = true := by kernel_rfl)
    (q : ∀ c a w, Q (.panic c) (a.put l[i].dst v) w → Q (.panic c) a w := by exact fun _ _ _ h => h) (y : YieldsIf P l.toArray S l[i] v a := by refine Or.inl ⟨by rfl, ?_⟩; intro w hSw; (try dsimp only at hSw); (try (obtain ⟨s0, s1, s2, s3⟩ := hSw)); simp only [zA, zB, zF, zG, zC, zD, zE]; go_simp <;> with_reducible rfl)
    (k : wpAnyH P md l.toArray Q S fuel (listed.setIfInBounds i true) (a.put l[i].dst v) w) : wpAnyH P md l.toArray Q S (fuel + 1) listed a w := aC4 i lt ns fr rd q y s k
theorem zU {t : Nat} (i : Nat) (lt : i < l.length := by simp) (s : S w := by assumption) (ns : Region.noSelect l.toArray = true := by kernel_rfl) (fr : Region.free md l.toArray listed i = true := by kernel_rfl) (rd : (Region.ready md l.toArray listed).contains i = true := by kernel_rfl) (wt : aQ8 md l.toArray t i = true := by kernel_rfl)
    (q : ∀ c a w, Q (.panic c) (a.put l[i].dst v) w → Q (.panic c) a w := by exact fun _ _ _ h => h) (y : YieldsIf P l.toArray S l[i] v a := by refine Or.inl ⟨by rfl, ?_⟩; intro w hSw; (try dsimp only at hSw); (try (obtain ⟨s0, s1, s2, s3⟩ := hSw)); simp only [zA, zB, zF, zG, zC, zD, zE]; go_simp <;> with_reducible rfl)
    (k : aJ0 P md l.toArray Q S t fuel (listed.setIfInBounds i true) (a.put l[i].dst v) w) : aJ0 P md l.toArray Q S t (fuel + 1) listed a w := aP2 i lt ns fr rd wt q y s k
theorem zT6 (i : Nat) (lt : i < l.length := by simp) (s : S w := by assumption) (ns : Region.noSelect l.toArray = true := by kernel_rfl) (fr : Region.free md l.toArray listed i = true := by kernel_rfl) (rd : (Region.ready md l.toArray listed).contains i = true := by kernel_rfl)
    (q : ∀ c a w, Q (.panic c) (a.put l[i].dst v) w → Q (.panic c) a w := by exact fun _ _ _ h => h) (y : YieldsIf P l.toArray S l[i] v a := by refine Or.inl ⟨by rfl, ?_⟩; intro w hSw; (try dsimp only at hSw); obtain ⟨s0, s1, s2, s3, s4, s5⟩ := hSw; simp only [zA, zB, zF, zG, zC, zD, zE]; go_simp <;> with_reducible rfl)
    (k : wpAnyH P md l.toArray Q S fuel (listed.setIfInBounds i true) (a.put l[i].dst v) w) : wpAnyH P md l.toArray Q S (fuel + 1) listed a w := aC4 i lt ns fr rd q y s k
theorem zU6 {t : Nat} (i : Nat) (lt : i < l.length := by simp) (s : S w := by assumption) (ns : Region.noSelect l.toArray = true := by kernel_rfl) (fr : Region.free md l.toArray listed i = true := by kernel_rfl) (rd : (Region.ready md l.toArray listed).contains i = true := by kernel_rfl) (wt : aQ8 md l.toArray t i = true := by kernel_rfl)
    (q : ∀ c a w, Q (.panic c) (a.put l[i].dst v) w → Q (.panic c) a w := by exact fun _ _ _ h => h) (y : YieldsIf P l.toArray S l[i] v a := by refine Or.inl ⟨by rfl, ?_⟩; intro w hSw; (try dsimp only at hSw); obtain ⟨s0, s1, s2, s3, s4, s5⟩ := hSw; simp only [zA, zB, zF, zG, zC, zD, zE]; go_simp <;> with_reducible rfl)
    (k : aJ0 P md l.toArray Q S t fuel (listed.setIfInBounds i true) (a.put l[i].dst v) w) : aJ0 P md l.toArray Q S t (fuel + 1) listed a w := aP2 i lt ns fr rd wt q y s k
theorem zT7 (i : Nat) (lt : i < l.length := by simp) (s : S w := by assumption) (ns : Region.noSelect l.toArray = true := by kernel_rfl) (fr : Region.free md l.toArray listed i = true := by kernel_rfl) (rd : (Region.ready md l.toArray listed).contains i = true := by kernel_rfl)
    (q : ∀ c a w, Q (.panic c) (a.put l[i].dst v) w → Q (.panic c) a w := by exact fun _ _ _ h => h) (y : YieldsIf P l.toArray S l[i] v a := by refine Or.inl ⟨by rfl, ?_⟩; intro w hSw; (try dsimp only at hSw); obtain ⟨s0, s1, s2, s3, s4, s5, s6⟩ := hSw; simp only [zA, zB, zF, zG, zC, zD, zE]; go_simp <;> with_reducible rfl)
    (k : wpAnyH P md l.toArray Q S fuel (listed.setIfInBounds i true) (a.put l[i].dst v) w) : wpAnyH P md l.toArray Q S (fuel + 1) listed a w := aC4 i lt ns fr rd q y s k
theorem zU7 {t : Nat} (i : Nat) (lt : i < l.length := by simp) (s : S w := by assumption) (ns : Region.noSelect l.toArray = true := by kernel_rfl) (fr : Region.free md l.toArray listed i = true := by kernel_rfl) (rd : (Region.ready md l.toArray listed).contains i = true := by kernel_rfl) (wt : aQ8 md l.toArray t i = true := by kernel_rfl)
    (q : ∀ c a w, Q (.panic c) (a.put l[i].dst v) w → Q (.panic c) a w := by exact fun _ _ _ h => h) (y : YieldsIf P l.toArray S l[i] v a := by refine Or.inl ⟨by rfl, ?_⟩; intro w hSw; (try dsimp only at hSw); obtain ⟨s0, s1, s2, s3, s4, s5, s6⟩ := hSw; simp only [zA, zB, zF, zG, zC, zD, zE]; go_simp <;> with_reducible rfl)
    (k : aJ0 P md l.toArray Q S t fuel (listed.setIfInBounds i true) (a.put l[i].dst v) w) : aJ0 P md l.toArray Q S t (fuel + 1) listed a w := aP2 i lt ns fr rd wt q y s k
theorem zT9 (i : Nat) (lt : i < l.length := by simp) (s : S w := by assumption) (ns : Region.noSelect l.toArray = true := by kernel_rfl) (fr : Region.free md l.toArray listed i = true := by kernel_rfl) (rd : (Region.ready md l.toArray listed).contains i = true := by kernel_rfl)
    (q : ∀ c a w, Q (.panic c) (a.put l[i].dst v) w → Q (.panic c) a w := by exact fun _ _ _ h => h) (y : YieldsIf P l.toArray S l[i] v a := by refine Or.inl ⟨by rfl, ?_⟩; intro w hSw; (try dsimp only at hSw); obtain ⟨s0, s1, s2, s3, s4, s5, s6, s7, s8⟩ := hSw; simp only [zA, zB, zF, zG, zC, zD, zE]; go_simp <;> with_reducible rfl)
    (k : wpAnyH P md l.toArray Q S fuel (listed.setIfInBounds i true) (a.put l[i].dst v) w) : wpAnyH P md l.toArray Q S (fuel + 1) listed a w := aC4 i lt ns fr rd q y s k
theorem zU9 {t : Nat} (i : Nat) (lt : i < l.length := by simp) (s : S w := by assumption) (ns : Region.noSelect l.toArray = true := by kernel_rfl) (fr : Region.free md l.toArray listed i = true := by kernel_rfl) (rd : (Region.ready md l.toArray listed).contains i = true := by kernel_rfl) (wt : aQ8 md l.toArray t i = true := by kernel_rfl)
    (q : ∀ c a w, Q (.panic c) (a.put l[i].dst v) w → Q (.panic c) a w := by exact fun _ _ _ h => h) (y : YieldsIf P l.toArray S l[i] v a := by refine Or.inl ⟨by rfl, ?_⟩; intro w hSw; (try dsimp only at hSw); obtain ⟨s0, s1, s2, s3, s4, s5, s6, s7, s8⟩ := hSw; simp only [zA, zB, zF, zG, zC, zD, zE]; go_simp <;> with_reducible rfl)
    (k : aJ0 P md l.toArray Q S t fuel (listed.setIfInBounds i true) (a.put l[i].dst v) w) : aJ0 P md l.toArray Q S t (fuel + 1) listed a w := aP2 i lt ns fr rd wt q y s k
theorem zV (i : Nat) (lt : i < l.length := by simp) (r : Region.ready md l.toArray listed = [i] := by kernel_rfl)
    (k : ∀ K' : Act → World → Prop, Shut (∀ a w, S w → (S w → wpAnyH P md l.toArray Q S fuel (listed.setIfInBounds i true) a w) → K' a w) → if Region.wanted l[i] (yielded l.toArray a.tmps) = true then Oper.wp P l[i] a w K' Q else K' (a.put l[i].dst undef) w) : wpAnyH P md l.toArray Q S (fuel + 1) listed a w := bY3 i lt r k
theorem zW {t : Nat} (i : Nat) (lt : i < l.length := by simp) (r : Region.ready md l.toArray listed = [i] := by kernel_rfl)
    (k : ∀ K' : Act → World → Prop, Shut (∀ a w, S w → (S w → aJ0 P md l.toArray Q S t fuel (listed.setIfInBounds i true) a w) → K' a w) → if Region.wanted l[i] (yielded l.toArray a.tmps) = true then Oper.wp P l[i] a w K' Q else K' (a.put l[i].dst undef) w) : aJ0 P md l.toArray Q S t (fuel + 1) listed a w := cM4 i lt r k
end
end Go.Proofs.YtgeofijddhflaaaGreatDoor
