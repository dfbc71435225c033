/- The reference's pieces; pieces that can be read. Condition: as keep.Bytes. -/
import Derived.Test.YtgeofijddhflaaaGreatDoorLKeepSame
import Derived.RangeFuncBound
import Derived.Shelf.RegionOpen
import Derived.OwnWalkIn
import Derived.LoopNIn
import Derived.LoopIn
set_option linter.unusedVariables false
set_option linter.unusedSimpArgs false
namespace Go.Proofs.YtgeofijddhflaaaGreatDoor
section
open Go.RowKit Go.Shelf Oct
attribute [local go_sem] Oper.semAt_some
theorem cF9 {P : Program} {T e : TypeId} {z : Value} {bytes : Nat} (ht : P.underlying T = some (.slice e)) (a7 : (P.info? e).map (fun i => (i.zero, i.size, i.bytes)) = some (some z, 1, bytes)) (A : Option Addr) (len cap lo hi : Nat) (h1 : lo <= hi) (h2 : hi <= cap) (X Y : Int) (hX : X = (lo : Int)) (hY : Y = (hi : Int)) (w : World) :
  (Instr.slice T (.slice A len cap) (some (.int .i64 X)) (some (.int .i64 Y)) (some (.int .i64 Y))).run P w = .ok (.slice (cutA A lo hi) (hi - lo) (hi - lo)) w := by
 obtain ⟨i, a9, hz, a8, b8⟩ := info_parts a7;subst hX; subst hY;rw [run_slice_lhm w T A len cap (by rw [ht]; simp [Program.elem, ht]) .i64 .i64 .i64 lo hi hi (by omega) (by omega) (by omega) (by omega)];have he : P.elem T = e := by simp [Program.elem, ht]
 rw [he, aS2 a9 a8];simp [sliced, Go.Proofs.YtgeofijddhflaaaGreatDoor.cutA, Result.andThen]
end
section
open Go.RowKit Oct
theorem aN3 {P : Program} {w : World} {o : Oper} {a : Act} {K : Act -> World -> Prop} {Q : Exit -> Act -> World -> Prop} (s x : Operand) (t : TypeId)
  (ho : o.op = .call { callee := .builtin .append, args := #[s, x], argTypes := #[t, t] })
  (base : Nat) (e : TypeId) (z : Value) (size bytes : Nat) (ht : P.underlying t = some (.slice e)) (a9 : (P.info? e).map (fun i => (i.zero, i.size, i.bytes)) = some (some z, size, bytes)) (g7 : z.cells.size = size) (g6 : 0 < size)
  (v : Value) (n : Nat) (xs : List Value) (hs : a.eval s = v) (e9 : w.ownsRow base e size v n xs)
  (ad : Addr) (m c : Nat) (news : List Value) (hx : a.eval x = .slice (some ad) m c) (hl : news.length = m * size) (b8 : ∀ j u, news[j]? = some u -> w.cell? (ad.add j) = some u) (h1 : ∀ u ∈ news, u.oneCell' = true)
  (f8 : n + m <= maxLen) (a7 : (n + m) * bytes <= 140737488355328) (a8 : base <= w.heap.size)
  (h : ∀ v' w', w'.ownsRow base e size v' (n + m) (xs ++ news) -> w.grownBy w' v.ownBlock -> aS5 v' v.ownBlock w.heap.size -> K (a.put o.dst v') w') : o.wp P a w K Q := by
 obtain ⟨i, hi, hz, d8, f9⟩ := info_parts a9;obtain ⟨v', w', f7, h2, h3, _, h5⟩ := run_append_own_at (P := P) w base t o.type e i z size bytes ht hi hz d8 f9 g7 g6 v n xs e9 ad m c news hl b8 h1 f8 a7 a8;unfold Oper.wp execOp;simp only [ho, resolve, invoke, builtin, Sem.run_bind, Sem.run_pure, Result.andThen_ok, List.map_toArray, mG, List.map_nil, hs, hx, f7];refine h v' w' h2 h3 ?_;rcases h5 with h5 | h5
 ·exact .inl h5
 exact .inr ⟨_, h5, lR _⟩
end
section
open Go.RowKit Oct
theorem aP9.held {w : World} {base : Nat} {v : Value} (h : aP9 w base v) {g : Nat} (hg : v.ownBlock = some g) : ∃ cs, w.heap[g]? = some (.cells cs 5 (0, 0)) := by
 rcases h with rfl | ⟨g', n, cap, a7, rfl, _, hb, _⟩
 ·cases hg
 simp [Value.ownBlock] at hg
 subst hg;exact ⟨_, hb⟩
theorem aD1 {w : World} {base : Nat} {e : TypeId} {size : Nat} {v : Value} {n : Nat} {xs : List Value} (h : w.ownsRow base e size v n xs) {g : Nat} (hg : v.ownBlock = some g) : ∃ cs, w.heap[g]? = some (.cells cs e (0, 0)) := by
 rcases h.2 with ⟨rfl, _⟩ | ⟨g', cap, a7, rfl, _, hb, _⟩
 ·cases hg
 simp [Value.ownBlock] at hg
 subst hg;exact ⟨_, hb⟩
end
section
open Go.RowKit Oct
def dM0 (w : World) (B : Nat) (A : Option Addr) (i t many : Int) (ls : List (List UInt8)) : Prop :=
 ∀ k (hk : k < ls.length), ∃ g a c, A = some ⟨g, 0, none⟩ ∧ g < B ∧ w.cell? ⟨g, k * 5, none⟩ = some (.int .i64 i) ∧ w.cell? ⟨g, k * 5 + 1, none⟩ = some (.int .i64 t) ∧ w.cell? ⟨g, k * 5 + 2, none⟩ = some (.int .i64 k) ∧ w.cell? ⟨g, k * 5 + 3, none⟩ = some (.int .i64 many) ∧ w.cell? ⟨g, k * 5 + 4, none⟩ = some (.slice a ls[k].length c) ∧ Rd w B a (cells ls[k]) ∧ ls[k].length <= c
theorem dM0.below {w w' : World} {B B' : Nat} {A : Option Addr} {i t many : Int} {ls : List (List UInt8)} (h : dM0 w B A i t many ls) (hb : Below B' w w') (hB : B <= B') : dM0 w' B A i t many ls := fun k hk => by
 obtain ⟨g, a, c, h1, h2, h3, h4, h5, h6, h7, h8, h9⟩ := h k hk;have hc : ∀ j, w'.cell? ⟨g, j, none⟩ = w.cell? ⟨g, j, none⟩ := fun j => hb.cell (p := ⟨g, j, none⟩) (Nat.lt_of_lt_of_le h2 hB)
 exact ⟨g, a, c, h1, h2, (hc _).trans h3, (hc _).trans h4, (hc _).trans h5, (hc _).trans h6, (hc _).trans h7, h8.below (hb.mono hB), h9⟩
theorem dM0.more {w : World} {B B' : Nat} {A : Option Addr} {i t many : Int} {ls : List (List UInt8)} (h : dM0 w B A i t many ls) (hB : B <= B') : dM0 w B' A i t many ls := fun k hk => by
 obtain ⟨g, a, c, h1, h2, h3, h4, h5, h6, h7, h8, h9⟩ := h k hk;exact ⟨g, a, c, h1, by omega, h3, h4, h5, h6, h7, h8.more hB, h9⟩
end
end Go.Proofs.YtgeofijddhflaaaGreatDoor
