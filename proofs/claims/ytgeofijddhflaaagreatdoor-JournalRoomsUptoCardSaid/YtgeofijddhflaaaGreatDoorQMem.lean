/- Plain mathematics of varints: a count's digits in base 128, the highest first, and its bytes. No condition. -/
import Derived.Below
import Derived.Laws.OwnMore
import Derived.Laws.CopyOwn
import Derived.Deep.AppendLies
import Derived.Deep.Draws
import Derived.Maps.AppendAt
import Derived.RegionTactic
import Derived.OwnWalk
import Derived.Laws.NewBlocks
import Derived.Laws.Slices
import Derived.Laws.MakeOwn
import Derived.Laws.BytesString
import Derived.Laws.BytesArg
namespace Go.Proofs.YtgeofijddhflaaaGreatDoor.Oct
def dig7 (n : Nat) : UInt8 := UInt8.ofNat (n % 128 + 128)
def low7 (n : Nat) : UInt8 := UInt8.ofNat (n % 128)
def digs (n : Nat) : List UInt8 := if _h : n = 0 then [] else digs (n / 128) ++ [dig7 n]
 termination_by n
 decreasing_by exact Nat.div_lt_self (Nat.pos_of_ne_zero _h) (by omega)
def enc (n : Nat) : List UInt8 := digs (n / 128) ++ [low7 n]
theorem digs_zero : digs 0 = [] := by rw [digs]; simp
theorem digs_pos (n : Nat) (h : n ≠ 0) : digs n = digs (n / 128) ++ [dig7 n] := by
 conv => lhs; rw [digs]
 simp [h]
def cells (l : List UInt8) : List Value := l.map fun b => .int .u8 (b.toNat : Int)
theorem cells_length (l : List UInt8) : (cells l).length = l.length := by simp [cells]
theorem cells_append (a b : List UInt8) : cells (a ++ b) = cells a ++ cells b := by simp [cells]
theorem cells_nil : cells [] = [] := rfl
theorem digs_len (n k : Nat) (h : n < 128 ^ k) : (digs n).length ≤ k := by
 induction k generalizing n with
 | zero =>
  have : n = 0 := by simpa using h
  subst this
  simp [digs_zero]
 | succ k ih =>
  by_cases h0 : n = 0
  ·subst h0; simp [digs_zero]
  ·rw [digs_pos n h0]
   have : n / 128 < 128 ^ k := by
    apply Nat.div_lt_of_lt_mul
    rw [Nat.pow_succ] at h
    omega
   have := ih _ this
   simp
   omega
theorem enc_len (n : Nat) (h : n < 18446744073709551616) : (enc n).length ≤ 10 := by
 have := digs_len (n / 128) 9 (by omega)
 simp [enc]
 omega
def num : List UInt8 → Nat
 | l => l.foldl (fun a b => a * 128 + b.toNat % 128) 0
theorem toNat_ofNat8 (m : Nat) (h : m < 256) : (UInt8.ofNat m).toNat = m := by
 simp; omega
theorem pow7 (k : Nat) : (2 : Nat) ^ (7 * k) = 128 ^ k := by rw [Nat.pow_mul]
theorem pow7_int (k : Nat) : (2 : Int) ^ (7 * k) = ((128 ^ k : Nat) : Int) := by rw [← pow7]; simp
theorem big_of {n k : Nat} (h : (128 : Int) ≤ (n : Int) / 2 ^ (7 * k)) : 128 ≤ n / 128 ^ k := by
 rw [pow7_int, ← Int.natCast_ediv] at h
 omega
theorem shift_lt {n k : Nat} (hn : n < 2 ^ 64) (h : (128 : Int) ≤ (n : Int) / 2 ^ (7 * k)) : k < 9 := by
 have h1 := big_of h
 rcases Nat.lt_or_ge k 9 with h9 | h9
 ·exact h9
 ·have h2 : (128 : Nat) ^ 9 ≤ 128 ^ k := Nat.pow_le_pow_right (by omega) h9
  have h3 : n / 128 ^ k ≤ n / 128 ^ 9 := Nat.div_le_div_left h2 (by omega)
  omega
def Big (n k : Nat) : Prop := k = 0 ∨ 128 ≤ n / 128 ^ (k - 1)
theorem mod128_or (m : Nat) : (m % 256) ||| 128 = m % 128 + 128 := by
 have h : ∀ x : Fin 256, x.val ||| 128 = x.val % 128 + 128 := by decide +kernel
 have := h ⟨m % 256, Nat.mod_lt _ (by omega)⟩
 simp only at this
 omega
theorem digs_step {n k j : Nat} (hB : Big n k) (hj : j ≤ k) (h0 : 0 < j) : digs (n / 128 ^ j) = digs (n / 128 ^ (j + 1)) ++ [dig7 (n / 128 ^ j)] := by
 have hne : n / 128 ^ j ≠ 0 := by
  rcases hB with h | h
  ·omega
  ·have h1 : (128 : Nat) ^ (j - 1) ≤ 128 ^ (k - 1) := Nat.pow_le_pow_right (by omega) (by omega)
   have h2 : n / 128 ^ (k - 1) ≤ n / 128 ^ (j - 1) := Nat.div_le_div_left h1 (Nat.pow_pos (by omega))
   obtain ⟨i, rfl⟩ : ∃ i, j = i + 1 := ⟨j - 1, by omega⟩
   rw [Nat.pow_succ, ← Nat.div_div_eq_div_mul]
   simp at h2
   omega
 rw [digs_pos _ hne, Nat.pow_succ, Nat.div_div_eq_div_mul]
theorem digs_start {n k : Nat} (h : (n : Int) / 2 ^ (7 * k) < 128) : digs (n / 128 ^ (k + 1)) = [] := by
 rw [pow7_int, ← Int.natCast_ediv] at h
 rw [Nat.pow_succ, ← Nat.div_div_eq_div_mul, Nat.div_eq_of_lt (by omega), digs_zero]
def tkc (m : Nat) : Bool → Nat → Nat → List UInt8 → Nat × Nat × Int
 | _, _, i, [] => (0, i, 3)
 | first, n, i, c :: r =>
  if (first && c == 128) || decide (m / 128 < n) || (decide (n = m / 128) && decide (m % 128 < c.toNat % 128)) then (0, i + 1, 4)
  else if c.toNat < 128 then (n * 128 + c.toNat % 128, i + 1, 0)
  else tkc m false (n * 128 + c.toNat % 128) (i + 1) r
theorem tkc_le (m : Nat) (f : Bool) (n i : Nat) (l : List UInt8) : (tkc m f n i l).1 ≤ m := by
 induction l generalizing f n i with
 | nil => simp [tkc]
 | cons c r ih =>
  rw [tkc]
  split
  ·exact Nat.zero_le _
  ·rename_i hb
   simp only [Bool.or_eq_true, Bool.and_eq_true, decide_eq_true_eq, not_or, not_and] at hb
   have h2 := hb.2
   have h1 := hb.1.2
   split
   ·show n * 128 + c.toNat % 128 ≤ m
    by_cases hn : n = m / 128
    ·have := h2 hn; omega
    ·omega
   ·exact ih ..
theorem tkc_used (m : Nat) (f : Bool) (n i : Nat) (l : List UInt8) : i ≤ (tkc m f n i l).2.1 ∧ (tkc m f n i l).2.1 ≤ i + l.length := by
 induction l generalizing f n i with
 | nil => simp [tkc]
 | cons c r ih =>
  rw [tkc]
  split
  ·simp
  ·split
   ·simp
   ·have := ih false (n * 128 + c.toNat % 128) (i + 1)
    simp only [List.length_cons]
    omega
def cnt (m : Nat) (l : List UInt8) : Nat × Nat × Int := tkc m true 0 0 l
theorem cnt_le (m : Nat) (l : List UInt8) : (cnt m l).1 ≤ m := tkc_le ..
theorem cnt_used (m : Nat) (l : List UInt8) : (cnt m l).2.1 ≤ l.length := by have := (tkc_used m true 0 0 l).2; simpa [cnt] using this
def maxI : Nat := 9223372036854775807
def maxU : Nat := 18446744073709551615
def takeU (m : Nat) (l : List UInt8) : Nat × Nat × Int := ((cnt m l).1, if (cnt m l).2.2 = 0 then (cnt m l).2.1 else 0, (cnt m l).2.2)
def unfold1 (u : Nat) : Int := if u % 2 = 0 then (u / 2 : Nat) else -((u / 2 : Nat) : Int) - 1
def fold1 (n : Int) : Nat := if 0 ≤ n then 2 * n.toNat else 2 * (-(n + 1)).toNat + 1
end Go.Proofs.YtgeofijddhflaaaGreatDoor.Oct
set_option linter.unusedVariables false
namespace Go.Proofs.YtgeofijddhflaaaGreatDoor.Oct
theorem dig7_toNat (n : Nat) : (dig7 n).toNat = n % 128 + 128 := toNat_ofNat8 _ (by omega)
theorem low7_toNat (n : Nat) : (low7 n).toNat = n % 128 := toNat_ofNat8 _ (by omega)
theorem u8_ext {a b : UInt8} (h : a.toNat = b.toNat) : a = b := UInt8.toNat_inj.1 h
theorem tkc_form (m : Nat) (l : List UInt8) : ∀ (f : Bool) (n i : Nat) (v u : Nat), (f = true ∧ n = 0) ∨ (f = false ∧ n ≠ 0) → tkc m f n i l = (v, u, 0) → i < u ∧ u - i ≤ l.length ∧ digs n ++ l.take (u - i) = enc v := by
 induction l with
 | nil => intro f n i v u _ h; simp [tkc] at h
 | cons c r ih =>
  intro f n i v u hf h
  rw [tkc] at h
  split at h
  ·simp at h
  ·rename_i hb
   simp only [Bool.or_eq_true, Bool.and_eq_true, decide_eq_true_eq, beq_iff_eq, not_or, not_and] at hb
   have hcl := c.toNat_lt
   split at h
   ·rename_i hc
    simp only [Prod.mk.injEq] at h
    obtain ⟨rfl, rfl, _⟩ := h
    refine ⟨by omega, by simp, ?_⟩
    rw [show i + 1 - i = 1 by omega]
    unfold enc
    have h1 : (n * 128 + c.toNat % 128) / 128 = n := by omega
    rw [h1]
    congr 1
    show [c] = _
    congr 1
    apply u8_ext
    rw [low7_toNat]
    omega
   ·rename_i hc
    have hn' : n * 128 + c.toNat % 128 ≠ 0 := by
     rcases hf with ⟨rfl, rfl⟩ | ⟨_, hn⟩
     ·have h1 := hb.1.1 rfl
      intro h2
      apply h1
      apply u8_ext
      show c.toNat = 128
      omega
     ·omega
    obtain ⟨h1, h2, h3⟩ := ih false _ (i + 1) v u (.inr ⟨rfl, hn'⟩) h
    refine ⟨by omega, by simp; omega, ?_⟩
    rw [digs_pos _ hn', show (n * 128 + c.toNat % 128) / 128 = n by omega, List.append_assoc] at h3
    have hd : dig7 (n * 128 + c.toNat % 128) = c := by
     apply u8_ext
     rw [dig7_toNat]
     omega
    rw [hd] at h3
    rw [show u - i = (u - (i + 1)) + 1 by omega, List.take_succ_cons]
    exact h3
theorem cnt_form {m : Nat} {l : List UInt8} (h : (cnt m l).2.2 = 0) : 0 < (cnt m l).2.1 ∧ (cnt m l).2.1 ≤ l.length ∧ l.take (cnt m l).2.1 = enc (cnt m l).1 := by
 have := tkc_form m l true 0 0 (cnt m l).1 (cnt m l).2.1 (.inl ⟨rfl, rfl⟩) (by
  show cnt m l = _
  rw [← h])
 rw [digs_zero] at this
 simpa using this
end Go.Proofs.YtgeofijddhflaaaGreatDoor.Oct
set_option linter.unusedVariables false
namespace Go.Proofs.YtgeofijddhflaaaGreatDoor
open Go.RowKit
theorem ret_int {k : IntKind} {a b : Int} (h : a = b) : Ending.returned (.int k a) = .returned (.int k b) := by rw [h]
theorem ret3 {a a' b b' c c' : Value} (h1 : a = a') (h2 : b = b') (h3 : c = c') : Ending.returned (.tuple #[a, b, c]) = .returned (.tuple #[a', b', c']) := by rw [h1, h2, h3]
theorem block_of_add (a : Addr) (n : Nat) : (a.add n).block = a.block := by unfold Addr.add; split <;> rfl
theorem add_of_add (a : Addr) (i j : Nat) : (a.add i).add j = a.add (i + j) := by
 unfold Addr.add
 by_cases hi : i = 0 <;> by_cases hj : j = 0 <;> simp [hi, hj, Nat.add_assoc]
theorem below_drewN {B : Nat} {a w : World} (h : Below B a w) (n : Nat) : Below B a (w.drewN n) := ⟨h.os, h.tape, h.output, h.size, h.block⟩
theorem below_of_grown {w w' : World} (h : w.grownBy w' none) : Below w.heap.size w w' := ⟨h.os, h.tape, h.output, h.size, fun k hk => h.block k hk (by simp)⟩
theorem grown_of_below {w w' : World} (h : Below w.heap.size w w') (row : Option Nat) : w.grownBy w' row := ⟨h.os, h.tape, h.output, h.size, fun i hi _ => h.block i hi⟩
theorem grown_then {w w1 w2 : World} {r r1 : Option Nat} (h : w.grownBy w1 r) (k : w1.grownBy w2 r1) (hr : r1 = r ∨ ∃ g, r1 = some g ∧ w.heap.size ≤ g) : w.grownBy w2 r :=
 ⟨k.os.trans h.os, k.tape.trans h.tape, k.output.trans h.output, Nat.le_trans h.size k.size, fun i hi hne => by
  refine (k.block i (Nat.lt_of_lt_of_le hi h.size) ?_).trans (h.block i hi hne)
  rcases hr with rfl | ⟨g, rfl, hg⟩
  ·exact hne
  ·simp; omega⟩
theorem grown_drewN {a w : World} {row : Option Nat} (h : a.grownBy w row) (n : Nat) : a.grownBy (w.drewN n) row := ⟨h.os, h.tape, h.output, h.size, h.block⟩
theorem grown_of_drewN {a w : World} {row : Option Nat} {n : Nat} (h : (a.drewN n).grownBy w row) : a.grownBy w row := ⟨h.os, h.tape, h.output, h.size, h.block⟩
def Rd (w : World) (B : Nat) (A : Option Addr) (xs : List Value) : Prop :=
 0 < xs.length → ∃ ad, A = some ad ∧ ad.block < B ∧ ∀ j u, xs[j]? = some u → w.cell? (ad.add j) = some u
section
variable {w w' : World} {B B' : Nat} {A : Option Addr} {xs : List Value}
theorem Rd.none_ : Rd w B A [] := fun h => absurd h (by simp)
theorem Rd.at_ {k : Nat} (h : Rd w B A xs) (hk : k < xs.length) : ∃ ad, A = some ad ∧ ad.block < B ∧ w.cell? (ad.add k) = some xs[k] := by
 obtain ⟨ad, e, hb, hc⟩ := h (by omega)
 exact ⟨ad, e, hb, hc k _ (List.getElem?_eq_getElem hk)⟩
theorem Rd.keep (h : Rd w B A xs) (hk : ∀ p : Addr, p.block < B → w'.cell? p = w.cell? p) : Rd w' B A xs := fun hn => by
 obtain ⟨ad, e, hb, hc⟩ := h hn
 exact ⟨ad, e, hb, fun j u hu => (hk _ (by rw [block_of_add]; exact hb)).trans (hc j u hu)⟩
theorem Rd.more (h : Rd w B A xs) (hB : B ≤ B') : Rd w B' A xs := fun hn => by
 obtain ⟨ad, e, hb, hc⟩ := h hn
 exact ⟨ad, e, by omega, hc⟩
theorem Rd.below (h : Rd w B A xs) (hb : Below B w w') : Rd w' B A xs := h.keep fun _ hp => hb.cell hp
theorem Rd.drewN (h : Rd w B A xs) (k : Nat) : Rd (w.drewN k) B A xs := h
theorem Rd.alloc (h : Rd w B A xs) (hB : B ≤ w.heap.size) (o : Obj) : Rd (w.alloc o) B A xs := h.keep fun p hp => World.cell?_alloc_lt w o p (by omega)
theorem Rd.grown (h : Rd w B A xs) {row : Option Nat} (hg : w.grownBy w' row) (hB : B ≤ w.heap.size) (hr : ∀ g, row = some g → B ≤ g) : Rd w' B A xs :=
 h.keep fun p hp => World.cell?_of_block (hg.block p.block (by omega) (fun e => by have := hr _ e.symm; omega))
theorem Rd.cut (h : Rd w B A xs) {k cap : Nat} (hk : k ≤ xs.length) (hc : xs.length ≤ cap) : Rd w B (if cap = k then A else A.map (·.add k)) (xs.drop k) := fun hn => by
 rw [List.length_drop] at hn
 obtain ⟨ad, rfl, hb, hcell⟩ := h (by omega)
 rw [if_neg (by omega)]
 refine ⟨ad.add k, rfl, by rw [block_of_add]; exact hb, fun j u hu => ?_⟩
 rw [add_of_add]
 exact hcell _ u (by rw [← hu, List.getElem?_drop])
theorem Rd.take (h : Rd w B A xs) (k : Nat) : Rd w B A (xs.take k) := fun hn => by
 obtain ⟨ad, rfl, hb, hcell⟩ := h (by rw [List.length_take] at hn; omega)
 refine ⟨ad, rfl, hb, fun j u hu => hcell j u ?_⟩
 rw [List.getElem?_take] at hu
 split at hu
 ·exact hu
 ·cases hu
end
theorem rd_at {w : World} {B : Nat} {A : Option Addr} {α : Type} {f : α → Value} {l : List α} {k : Nat} (h : Rd w B A (l.map f)) (hk : k < l.length) : ∃ ad, A = some ad ∧ ad.block < B ∧ w.cell? (ad.add k) = some (f l[k]) := by
 obtain ⟨ad, h1, h2, h3⟩ := h.at_ (k := k) (by rw [List.length_map]; exact hk)
 rw [List.getElem_map] at h3
 exact ⟨ad, h1, h2, h3⟩
def cutA (A : Option Addr) (lo cap : Nat) : Option Addr := if cap = lo then A else A.map (·.add lo)
theorem Rd.cutA {w : World} {B : Nat} {A : Option Addr} {xs : List Value} (h : Rd w B A xs) {k cap : Nat} (hk : k ≤ xs.length) (hc : xs.length ≤ cap) : Rd w B (cutA A k cap) (xs.drop k) := h.cut hk hc
theorem sizeOf_one {P : Program} {e : TypeId} {i : TypeInfo} (hi : P.info? e = some i) (hz : i.size = 1) (w : World) : (sizeOf e).run P w = .ok 1 w := by
 simp [sizeOf, typeInfo, hi, hz]
section
variable {P : Program} {T e : TypeId} {z : Value} {bytes : Nat} (ht : P.underlying T = some (.slice e)) (hinfo : (P.info? e).map (fun i => (i.zero, i.size, i.bytes)) = some (some z, 1, bytes))
include ht hinfo
theorem run_cut (A : Option Addr) (len cap lo hi : Nat) (h1 : lo ≤ hi) (h2 : hi ≤ cap) (X Y : Int) (hX : X = (lo : Int)) (hY : Y = (hi : Int)) (w : World) :
  (Instr.slice T (.slice A len cap) (some (.int .i64 X)) (some (.int .i64 Y)) none).run P w = .ok (.slice (cutA A lo cap) (hi - lo) (cap - lo)) w := by
 obtain ⟨i, hi', hz, hsize, hby⟩ := info_parts hinfo
 subst hX; subst hY
 rw [run_slice_lh w T A len cap (by rw [ht]; simp [Program.elem, ht]) .i64 .i64 lo hi (by omega) (by omega) (by omega)]
 have he : P.elem T = e := by simp [Program.elem, ht]
 rw [he, sizeOf_one hi' hsize]
 simp [sliced, Go.Proofs.YtgeofijddhflaaaGreatDoor.cutA, Result.andThen]
theorem run_cut_from (A : Option Addr) (len cap lo : Nat) (h1 : lo ≤ len) (X : Int) (hX : X = (lo : Int)) (w : World) :
  (Instr.slice T (.slice A len cap) (some (.int .i64 X)) none none).run P w = .ok (.slice (cutA A lo cap) (len - lo) (cap - lo)) w := by
 obtain ⟨i, hi', hz, hsize, hby⟩ := info_parts hinfo
 subst hX
 rw [run_slice_l w T A len cap (by rw [ht]; simp [Program.elem, ht]) .i64 lo (by omega) (by omega)]
 have he : P.elem T = e := by simp [Program.elem, ht]
 rw [he, sizeOf_one hi' hsize]
 simp [sliced, Go.Proofs.YtgeofijddhflaaaGreatDoor.cutA, Result.andThen]
end
def Own (w : World) (base : Nat) (e : TypeId) (v : Value) (xs : List Value) : Prop := w.ownsRow base e 1 v xs.length xs
def Fresh (v : Value) (r : Option Nat) (n : Nat) : Prop := v.ownBlock = r ∨ ∃ g, v.ownBlock = some g ∧ n ≤ g
theorem fresh_then {v v1 : Value} {r : Option Nat} {n m : Nat} (h : Fresh v r n) (k : Fresh v1 v.ownBlock m) (hm : n ≤ m) : Fresh v1 r n := by
 rcases k with k | ⟨g, k, hg⟩
 ·unfold Fresh; rw [k]; exact h
 ·exact .inr ⟨g, k, by omega⟩
section
variable {w w' : World} {base : Nat} {e : TypeId} {v : Value} {xs : List Value}
theorem Own.nil (w : World) (base : Nat) (e : TypeId) : Own w base e (.slice none 0 0) [] := World.ownsRow_nil w base e 1
theorem Own.lt (h : Own w base e v xs) : ∀ k, v.ownBlock = some k → base ≤ k ∧ k < w.heap.size := World.ownsRow.lt h
theorem Own.kept {row : Option Nat} (h : Own w base e v xs) (hg : w.grownBy w' row) (hne : v.ownBlock = none ∨ v.ownBlock ≠ row) : Own w' base e v xs := World.ownsRow.kept h hg hne
theorem Own.below (h : Own w base e v xs) {B : Nat} (hb : Below B w w') (hB : w.heap.size ≤ B) : Own w' base e v xs :=
 Own.kept h (row := none) (grown_of_below (hb.mono hB) none) (by cases v.ownBlock <;> simp)
theorem Own.far {g : Nat} (h : Own w base e v xs) (hg : w.grownBy w' (some g)) (hlt : g < base) : Own w' base e v xs := by
 refine Own.kept h hg (.inr fun hv => ?_)
 have := (h.lt g hv).1
 omega
theorem Own.alloc (h : Own w base e v xs) (o : Obj) : Own (w.alloc o) base e v xs := World.ownsRow.alloc h o
theorem Own.drewN (h : Own w base e v xs) (n : Nat) : Own (w.drewN n) base e v xs := h
theorem Own.mono {base' : Nat} (h : Own w base e v xs) (hb : base' ≤ base) : Own w base' e v xs := by
 obtain ⟨h1, h2⟩ := h
 refine ⟨h1, ?_⟩
 rcases h2 with h2 | ⟨g, cap, cur, hv, hg, r⟩
 ·exact .inl h2
 ·exact .inr ⟨g, cap, cur, hv, by omega, r⟩
theorem Own.shape (h : Own w base e v xs) : ∃ A c, v = .slice A xs.length c ∧ xs.length ≤ c ∧ c ≤ maxLen ∧ Rd w w.heap.size A xs := by
 obtain ⟨h1, h2⟩ := id h
 rcases h2 with ⟨rfl, h0⟩ | ⟨g, cap, cur, rfl, hb, hg, hn, hc, hs, ht⟩
 ·have hx : xs = [] := List.eq_nil_of_length_eq_zero h0
  subst hx
  exact ⟨none, 0, rfl, Nat.le_refl _, Nat.zero_le _, Rd.none_⟩
 ·refine ⟨_, cap, rfl, hn, hc, fun _ => ⟨_, rfl, (Array.getElem?_eq_some_iff.1 hg).1, World.ownsRow.cells h rfl⟩⟩
theorem Own.whole (h : Own w base e v xs) : (v = .slice none 0 0 ∧ xs = []) ∨ ∃ g cap cur, v = .slice (some ⟨g, 0, none⟩) xs.length cap ∧ base ≤ g ∧ g < w.heap.size ∧ w.heap[g]? = some (.cells cur e (0, 0)) ∧
  xs.length ≤ cap ∧ cap ≤ maxLen ∧ cur.size = cap ∧ cur.toList.take xs.length = xs := by
 obtain ⟨h1, h2⟩ := id h
 rcases h2 with ⟨rfl, h0⟩ | ⟨g, cap, cur, rfl, hb, hg, hn, hc, hs, ht⟩
 ·exact .inl ⟨rfl, List.eq_nil_of_length_eq_zero h0⟩
 ·exact .inr ⟨g, cap, cur, rfl, hb, (Array.getElem?_eq_some_iff.1 hg).1, hg, hn, hc, by omega, by simpa using ht⟩
end
def Blk (w : World) (g : Nat) (t : TypeId) (cs : Array Value) : Prop := w.heap[g]? = some (.cells cs t (0, 0))
section
variable {w w' : World} {g : Nat} {t : TypeId} {cs : Array Value}
theorem Blk.lt (h : Blk w g t cs) : g < w.heap.size := (Array.getElem?_eq_some_iff.1 h).1
theorem Blk.cell (h : Blk w g t cs) (i : Nat) : w.cell? ⟨g, i, none⟩ = cs[i]? := cell_of_row w g i cs t (0, 0) h
theorem Blk.frozen (h : Blk w g t cs) (i : Nat) : w.frozen? ⟨g, i, none⟩ = false := by
 unfold Blk at h
 simp [World.frozen?, h]
theorem Blk.new (w : World) (t : TypeId) (cs : Array Value) : Blk (w.alloc (.cells cs t)) w.heap.size t cs := heap_alloc_new w _
theorem Blk.drewN (h : Blk w g t cs) (n : Nat) : Blk (w.drewN n) g t cs := h
theorem Blk.alloc (h : Blk w g t cs) (o : Obj) : Blk (w.alloc o) g t cs := (Below.heap_alloc w o g h.lt).trans h
theorem Blk.set_ (h : Blk w g t cs) (i : Nat) (u : Value) : Blk (w.setCell ⟨g, i, none⟩ u) g t (cs.setIfInBounds i u) := by
 unfold Blk at h ⊢
 simp [World.setCell, Array.getElem?_modify, h]
theorem Blk.far (h : Blk w g t cs) {p : Addr} (hp : g ≠ p.block) (u : Value) : Blk (w.setCell p u) g t cs := (Below.heap_setCell w p u g hp).trans h
theorem Blk.below {B : Nat} (h : Blk w g t cs) (hb : Below B w w') (hg : g < B) : Blk w' g t cs := (hb.block g hg).trans h
theorem Blk.grown {row : Option Nat} (h : Blk w g t cs) (hb : w.grownBy w' row) (hg : some g ≠ row) : Blk w' g t cs := (hb.block g h.lt hg).trans h
end
theorem grown_setCell (w : World) (g i : Nat) (u : Value) : w.grownBy (w.setCell ⟨g, i, none⟩ u) (some g) :=
 ⟨rfl, rfl, rfl, by simp [World.setCell], fun k hk hne => Below.heap_setCell _ _ _ _ (by rintro rfl; exact hne rfl)⟩
section
variable {P : Program} {w : World}
theorem run_append_of_nil (base : Nat) (t ty e : TypeId) (i : TypeInfo) (ht : P.underlying t = some (.slice e)) (hi : P.info? e = some i)
  (v : Value) (xs : List Value) (hown : Own w base e v xs) (c : Nat) : (Builtin.append_ #[t, t] ty #[v, .slice none 0 c]).run P w = .ok v w := by
 rcases hown.2 with ⟨rfl, hn⟩ | ⟨g, cap, cur, rfl, _, _, hnc, _⟩
 ·simp [Builtin.append_, run_underlying ht, sizeOf, typeInfo, hi, Builtin.lenOf, Builtin.firstCells]
 ·simp [Builtin.append_, run_underlying ht, sizeOf, typeInfo, hi, Builtin.lenOf, Builtin.firstCells, hnc, storeCells]
theorem run_append_any (base : Nat) (t ty e : TypeId) (z : Value) (bytes : Nat) (ht : P.underlying t = some (.slice e)) (hinfo : (P.info? e).map (fun i => (i.zero, i.size, i.bytes)) = some (some z, 1, bytes)) (hzs : z.cells.size = 1)
  (v : Value) (xs : List Value) (hown : Own w base e v xs)
  (B : Nat) (A : Option Addr) (m c : Nat) (news : List Value) (hm : m = news.length) (hr : Rd w B A news) (h1 : ∀ u ∈ news, u.oneCell' = true)
  (h63 : xs.length + m ≤ maxLen) (hbytes : (xs.length + m) * bytes ≤ 140737488355328) (hbase : base ≤ w.heap.size) :
  ∃ v' w', (Builtin.append_ #[t, t] ty #[v, .slice A m c]).run P w = .ok v' w' ∧ Own w' base e v' (xs ++ news) ∧ w.grownBy w' v.ownBlock ∧ Fresh v' v.ownBlock w.heap.size := by
 obtain ⟨i, hi, hz, hsize, hby⟩ := info_parts hinfo
 subst hm
 rcases A with _ | ad
 ·have hm : news = [] := by
   rcases Nat.eq_zero_or_pos news.length with h0 | h0
   ·exact List.eq_nil_of_length_eq_zero h0
   ·obtain ⟨ad, h, _⟩ := hr h0
    cases h
  subst hm
  exact ⟨v, w, run_append_of_nil base t ty e i ht hi v xs hown c, by simpa using hown, World.grownBy.refl w _, .inl rfl⟩
 ·have hcells : ∀ j u, news[j]? = some u → w.cell? (ad.add j) = some u := by
   intro j u hu
   rcases Nat.eq_zero_or_pos news.length with h0 | h0
   ·have hn : news = [] := List.eq_nil_of_length_eq_zero h0
    subst hn
    simp at hu
   ·obtain ⟨ad', h, _, hc⟩ := hr h0
    injection h with h
    subst h
    exact hc j u hu
  obtain ⟨v', w', hrun, h2, h3, _, h5⟩ := run_append_own_at (P := P) w base t ty e i z 1 bytes ht hi hz hsize hby hzs (by omega) v xs.length xs hown ad news.length c news (by simp) hcells h1 h63 hbytes hbase
  refine ⟨v', w', hrun, ?_, h3, ?_⟩
  ·unfold Own; rw [List.length_append]; exact h2
  ·rcases h5 with h5 | h5
   ·exact .inl h5
   ·exact .inr ⟨_, h5, Nat.le_refl _⟩
theorem wp_append_any {o : Oper} {a : Act} {K : Act → World → Prop} {Q : Exit → Act → World → Prop} (s x : Operand) (t : TypeId)
  (ho : o.op = .call { callee := .builtin .append, args := #[s, x], argTypes := #[t, t] })
  (base : Nat) (e : TypeId) (z : Value) (bytes : Nat) (ht : P.underlying t = some (.slice e)) (hinfo : (P.info? e).map (fun i => (i.zero, i.size, i.bytes)) = some (some z, 1, bytes)) (hzs : z.cells.size = 1)
  (v : Value) (xs : List Value) (hs : a.eval s = v) (hown : Own w base e v xs)
  (B : Nat) (A : Option Addr) (m c : Nat) (news : List Value) (hx : a.eval x = .slice A m c) (hm : m = news.length) (hr : Rd w B A news) (h1 : ∀ u ∈ news, u.oneCell' = true)
  (h63 : xs.length + m ≤ maxLen) (hbytes : (xs.length + m) * bytes ≤ 140737488355328) (hbase : base ≤ w.heap.size)
  (h : ∀ v' w', Own w' base e v' (xs ++ news) → w.grownBy w' v.ownBlock → Fresh v' v.ownBlock w.heap.size → K (a.put o.dst v') w') : o.wp P a w K Q := by
 obtain ⟨v', w', hrun, h2, h3, h4⟩ := run_append_any (P := P) base t o.type e z bytes ht hinfo hzs v xs hown B A m c news hm hr h1 h63 hbytes hbase
 unfold Oper.wp execOp
 simp only [ho, resolve, invoke, builtin, Sem.run_bind, Sem.run_pure, Result.andThen_ok, List.map_toArray, List.map_cons, List.map_nil, hs, hx, hrun]
 exact h v' w' h2 h3 h4
theorem wpList_append_any {ops : Array Oper} {rest : List Oper} {o : Oper} {a : Act} {Q : Exit → Act → World → Prop} (hgd : o.guard = none) (s x : Operand) (t : TypeId)
  (ho : o.op = .call { callee := .builtin .append, args := #[s, x], argTypes := #[t, t] })
  (base : Nat) (e : TypeId) (z : Value) (bytes : Nat) (ht : P.underlying t = some (.slice e)) (hinfo : (P.info? e).map (fun i => (i.zero, i.size, i.bytes)) = some (some z, 1, bytes)) (hzs : z.cells.size = 1)
  (v : Value) (xs : List Value) (hs : a.eval s = v) (hown : Own w base e v xs)
  (B : Nat) (A : Option Addr) (m c : Nat) (news : List Value) (hx : a.eval x = .slice A m c) (hm : m = news.length) (hr : Rd w B A news) (h1 : ∀ u ∈ news, u.oneCell' = true)
  (h63 : xs.length + m ≤ maxLen) (hbytes : (xs.length + m) * bytes ≤ 140737488355328) (hbase : base ≤ w.heap.size)
  (h : ∀ v' w', Own w' base e v' (xs ++ news) → w.grownBy w' v.ownBlock → Fresh v' v.ownBlock w.heap.size → wpList P ops Q rest (a.put o.dst v') w') : wpList P ops Q (o :: rest) a w :=
 wpList_plain hgd fun _ hK => wp_append_any s x t ho base e z bytes ht hinfo hzs v xs hs hown B A m c news hx hm hr h1 h63 hbytes hbase fun v' w' h2 h3 h4 => hK _ _ (h v' w' h2 h3 h4)
theorem wpList_push {ops : Array Oper} {rest : List Oper} {o : Oper} {a : Act} {Q : Exit → Act → World → Prop} (hgd : o.guard = none) (s x : Operand) (t : TypeId)
  (ho : o.op = .call { callee := .builtin .append, args := #[s, x], argTypes := #[t, t] })
  (base : Nat) (e : TypeId) (z : Value) (bytes : Nat) (ht : P.underlying t = some (.slice e)) (hinfo : (P.info? e).map (fun i => (i.zero, i.size, i.bytes)) = some (some z, 1, bytes)) (hzs : z.cells.size = 1)
  (v : Value) (xs : List Value) (u u' : Value) (hu : u = u') (hs : a.eval s = v) (hown : Own w base e v xs)
  (hx : a.eval x = .slice (some ⟨w.heap.size, 0, none⟩) 1 1) (h1 : u.oneCell' = true)
  (hlen : xs.length + 1 ≤ 9223372036854775807) (hbytes : (xs.length + 1) * bytes ≤ 140737488355328) (hbase : base ≤ w.heap.size)
  (h : ∀ v' w', Own w' base e v' (xs ++ [u']) → w.grownBy w' v.ownBlock → Fresh v' v.ownBlock w.heap.size → wpList P ops Q rest (a.put o.dst v') w') : wpList P ops Q (o :: rest) a (w.alloc (.cells #[u] e)) := by
 subst hu
 refine wpList_append_any hgd s x t ho base e z bytes ht hinfo hzs v xs hs (hown.alloc _) (w.heap.size + 1) (some ⟨w.heap.size, 0, none⟩) 1 1 [u] hx rfl ?_ (by simpa using h1) (by simpa [maxLen] using hlen) hbytes (by simp; omega) ?_
 ·intro _
  refine ⟨_, rfl, by simp, fun j x hj => ?_⟩
  match j, hj with
  | 0, hj =>
   simp at hj
   subst hj
   rw [show (⟨w.heap.size, 0, none⟩ : Addr).add 0 = ⟨w.heap.size, 0, none⟩ from rfl, World.cell?_alloc_at _ _ _ _ rfl]
   rfl
 ·intro v' w' h2 h3 h4
  refine h v' w' h2 ?_ ?_
  ·exact ⟨h3.os, h3.tape, h3.output, Nat.le_trans (by simp) h3.size, fun k hk hne => (h3.block k (by simp; omega) hne).trans (Below.heap_alloc _ _ _ hk)⟩
  ·rcases h4 with h4 | ⟨g, h4, hg⟩
   ·exact .inl h4
   ·exact .inr ⟨g, h4, by simp at hg; omega⟩
end
end Go.Proofs.YtgeofijddhflaaaGreatDoor
set_option linter.unusedVariables false
namespace Go.Proofs.YtgeofijddhflaaaGreatDoor
open Go.RowKit Oct
def str (l : List UInt8) : ByteArray := ⟨l.toArray⟩
theorem str_data (l : List UInt8) : (str l).data.toList = l := rfl
theorem str_size (l : List UInt8) : (str l).size = l.length := rfl
theorem loop_eq (s : ByteArray) (n i : Nat) (r : List UInt8) (h : s.size - i = n) : ByteArray.toList.loop s i r = r.reverse ++ s.data.toList.drop i := by
 induction n generalizing i r with
 | zero =>
  unfold ByteArray.toList.loop
  have hge : ¬ i < s.size := by omega
  simp [hge]
  show s.data.size ≤ i
  have : s.data.size = s.size := rfl
  omega
 | succ n ih =>
  unfold ByteArray.toList.loop
  have hlt : i < s.size := by omega
  have hlt' : i < s.data.toList.length := by simpa using hlt
  simp [hlt]
  rw [ih (i+1) _ (by omega)]
  simp
  rw [List.drop_eq_getElem_cons hlt']
  congr 1
  have h2 : i < s.data.size := hlt
  have e : s.get! i = s.data[i]! := by cases s; rfl
  rw [e]
  rw [getElem!_pos s.data i h2]
  simp
theorem toList_eq (s : ByteArray) : s.toList = s.data.toList := by
 unfold ByteArray.toList
 rw [loop_eq s s.size 0 [] (by omega)]
 simp
theorem str_toList (l : List UInt8) : (str l).toList = l := by rw [toList_eq]; rfl
theorem run_str {P : Program} {w : World} {B : Nat} {A : Option Addr} {l : List UInt8} (src dst e : TypeId) (hs : P.underlying src = some (.slice e)) (he : P.underlying e = some (.int .u8)) (hd : P.underlying dst = some .string)
  (n c : Nat) (hn : n = l.length) (h : Rd w B A (cells l)) :
  (convert src dst (.slice A n c)).run P w = .ok (.string (str l)) w := by
 subst hn
 rw [run_convert_bytes_string w src dst e A _ _ hs he hd]
 rcases A with _ | a
 ·have hl : l = [] := by
   rcases Nat.eq_zero_or_pos l.length with h0 | h0
   ·exact List.eq_nil_of_length_eq_zero h0
   ·obtain ⟨ad, h, _⟩ := h (by rw [cells_length]; exact h0)
    cases h
  subst hl
  simp [Conv.bytesToString, Sem.run_pure]
  rfl
 ·have hc : (loadCells a l.length).run P w = .ok ((l.map fun b => (b.toNat : Int)).map (Value.int .u8)).toArray w := by
   have hcells : ∀ j u, (cells l)[j]? = some u → w.cell? (a.add j) = some u := by
    intro j u hu
    rcases Nat.eq_zero_or_pos l.length with h0 | h0
    ·have hn : l = [] := List.eq_nil_of_length_eq_zero h0
     subst hn
     simp [cells] at hu
    ·obtain ⟨ad', h, _, hc⟩ := h (by rw [cells_length]; exact h0)
     injection h with h
     subst h
     exact hc j u hu
   have := run_loadCells_list (P := P) (w := w) a (cells l) hcells
   rw [cells_length] at this
   rw [this]
   simp [cells]
  rw [run_bytesToString w a l.length c _ hc, foldl_push_bytes]
  congr 2
  simp only [str, List.map_map]
  simp
  have hf : ((fun n : Int => UInt8.ofNat n.toNat) ∘ fun b : UInt8 => (b.toNat : Int)) = id := by
   funext b
   simp
  rw [hf, List.map_id]
end Go.Proofs.YtgeofijddhflaaaGreatDoor
