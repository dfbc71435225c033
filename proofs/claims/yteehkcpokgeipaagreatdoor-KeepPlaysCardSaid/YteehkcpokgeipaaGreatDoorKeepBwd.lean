/- slices.Backward of a row of numbers: what it hands back, and its contract for a range. Condition: the row's box and the row are kept by each round. -/
import Derived.Test.YteehkcpokgeipaaGreatDoorHeld
import Derived.Test.YteehkcpokgeipaaGreatDoorKeepSame
import Derived.RangeFuncNested
import Derived.RangeFuncBound
import Derived.RangeFuncCalls
import Derived.RangeFuncLeaves
import Derived.Shelf.Abstract
import Derived.Shelf.RegionOpen
import Derived.WalkKit
import Derived.OwnWalkIn
import Derived.TacticsInMore
import Derived.LoopNIn
import Derived.LoopIn
set_option linter.unusedVariables false
namespace Go.Proofs.YteehkcpokgeipaaGreatDoor
open Go.RowKit Go.Shelf Oct
attribute [local go_sem] Oper.semAt_some
theorem run_cut_lhm {P : Program} {T e : TypeId} {z : Value} {bytes : Nat} (ht : P.underlying T = some (.slice e)) (hinfo : (P.info? e).map (fun i => (i.zero, i.size, i.bytes)) = some (some z, 1, bytes)) (A : Option Addr) (len cap lo hi : Nat) (h1 : lo ≤ hi) (h2 : hi ≤ cap) (X Y : Int) (hX : X = (lo : Int)) (hY : Y = (hi : Int)) (w : World) :
  (Instr.slice T (.slice A len cap) (some (.int .i64 X)) (some (.int .i64 Y)) (some (.int .i64 Y))).run P w = .ok (.slice (cutA A lo hi) (hi - lo) (hi - lo)) w := by
 obtain ⟨i, hi', hz, hsize, hby⟩ := info_parts hinfo
 subst hX; subst hY
 rw [run_slice_lhm w T A len cap (by rw [ht]; simp [Program.elem, ht]) .i64 .i64 .i64 lo hi hi (by omega) (by omega) (by omega) (by omega)]
 have he : P.elem T = e := by simp [Program.elem, ht]
 rw [he, sizeOf_one hi' hsize]
 simp [sliced, Go.Proofs.YteehkcpokgeipaaGreatDoor.cutA, Result.andThen]
def ckEnd (len k : Nat) : Nat := min (400 * k + 400) len
def ckV (A : Option Addr) (len k : Nat) : Value := .slice (cutA A (400 * k) (ckEnd len k)) (ckEnd len k - 400 * k) (ckEnd len k - 400 * k)
abbrev Ck (len : Nat) := { k : Nat // 400 * k < len }
def cks (len : Nat) : Nat → List (Ck len)
 | 0 => []
 | k + 1 => if h : 400 * k < len then cks len k ++ [⟨k, h⟩] else cks len k
theorem cks_succ {len k : Nat} (h : 400 * k < len) : cks len (k + 1) = cks len k ++ [⟨k, h⟩] := by rw [cks, dif_pos h]
theorem cks_length {len : Nat} : ∀ {k : Nat}, (∀ j, j < k → 400 * j < len) → (cks len k).length = k
 | 0, _ => rfl
 | k + 1, h => by rw [cks_succ (h k (by omega)), List.length_append, cks_length (fun j hj => h j (by omega))]; rfl
set_option maxRecDepth 100000 in
set_option maxHeartbeats 2000000 in
theorem chunk1_in (n : Nat) (hn : 1 ≤ n) (l B1 B2 N : Nat) (A : Option Addr) (len cap : Nat) (hlc : len ≤ cap) (hl : len ≤ 140737488351232) (hN : ∀ k, 400 * k < len → k < N) (J Jx : List (Ck len) → World → Prop)
  (hY : ∀ pre x W, J pre W → pre.length < N → YieldAt Fence.wide (n - 1) Tryz.prog l #[ckV A len x.1] W fun e W' =>
   (e = .returned (.bool true) ∧ J (pre ++ [x]) W' ∧ W'.heap[B1]? = W.heap[B1]? ∧ W'.heap[B2]? = W.heap[B2]?) ∨ (e = .returned (.bool false) ∧ Jx (pre ++ [x]) W'))
  (W : World) (hB1 : Blk W B1 27 #[.slice A len cap]) (hB2 : Blk W B2 3 #[.int .i64 400]) (h0 : J [] W) (hJd : ∀ pre W, J pre W → J pre W.drew) :
  CallsIn Fence.wide n Tryz.prog 99 #[.func (.yield l) #[] #[], .pointer (some ⟨B1, 0, none⟩), .pointer (some ⟨B2, 0, none⟩)] W fun e W' => (∃ v, e = .returned v) ∧
   ((∃ ys, (∃ k, ys = cks len k ∧ len ≤ 400 * k ∧ ∀ j, j < k → 400 * j < len) ∧ J ys W') ∨ (∃ pre, Jx pre W')) := by
 refine callsIn_of_wp Tryz.func99 rfl trivial ?_ rfl
 simp only [Tryz.ntmps99, List.size_toArray, List.length_cons, List.length_nil, Nat.reduceAdd, Nat.reduceSub, Array.replicate_succ, Array.replicate_zero, List.push_toArray, List.append_toArray, List.nil_append, List.cons_append]
 gi_wp2
 gi_loopw [4, 5] (fun i e wr => ∃ k : Nat, (∀ j, j < k → 400 * j < len) ∧ i = .int .i64 (400 * (k : Int)) ∧ J (cks len k) wr ∧ Hid (Blk wr B1 27 #[.slice A len cap]) ∧ Hid (Blk wr B2 3 #[.int .i64 400]))
  (fun i _ _ => len + 400 - (intOf i).toNat)
 case atStart => exact ⟨0, fun j hj => by omega, rfl, h0, Lib.hid hB1, Lib.hid hB2⟩
 case round =>
  obtain ⟨k, hk, rfl, hJs, hK1, hK2⟩ := hrel
  have c1 : wr.cell? ⟨B1, 0, none⟩ = some (.slice A len cap) := hK1.out.cell 0
  have c2 : wr.cell? ⟨B2, 0, none⟩ = some (.int .i64 400) := hK2.out.cell 0
  by_cases hlt : 400 * k < len
  ·have hltI : 400 * (k : Int) < len := by omega
   have hcut := fun W : World => run_cut_from (P := Tryz.prog) Tryz.underlying27 info_u8 A len cap (400 * k) (by omega) (400 * (k : Int)) (by omega) W
   gi_wp2
   refine wpIn_wide.2 ?_
   refine wp_region_held_drew (S := fun W => W.cell? ⟨B1, 0, none⟩ = some (.slice A len cap) ∧ W.cell? ⟨B2, 0, none⟩ = some (.int .i64 400) ∧ True ∧ True) (by kernel_rfl) ⟨c1, c2, trivial, trivial⟩ (fun hHeld => ?_)
   refine held_take 0 (v := ?_) (by simp) (by kernel_rfl) (by kernel_rfl) (by kernel_rfl) (fun _ _ _ h => h) (Or.inl ⟨by rfl, ?_⟩) hHeld ?_
   case refine_2 => (intro w hSw; (try dsimp only at hSw); (try (obtain ⟨s0, s1, s2, s3⟩ := hSw)); simp only [List.getElem_cons_zero]; go_simp <;> with_reducible rfl)
   simp only [List.getElem_cons_zero, Act.put, List.setIfInBounds_toArray, List.set_cons_zero, List.set_cons_succ]
   refine held_take 1 (v := ?_) (by simp) (by kernel_rfl) (by kernel_rfl) (by kernel_rfl) (fun _ _ _ h => h) (Or.inl ⟨by rfl, ?_⟩) hHeld ?_
   case refine_2 => (intro w hSw; (try dsimp only at hSw); (try (obtain ⟨s0, s1, s2, s3⟩ := hSw)); simp only [List.getElem_cons_zero, List.getElem_cons_succ]; go_simp <;> with_reducible rfl)
   simp only [List.getElem_cons_zero, List.getElem_cons_succ, Act.put, List.setIfInBounds_toArray, List.set_cons_zero, List.set_cons_succ]
   refine held_take 2 (v := ?_) (by simp) (by kernel_rfl) (by kernel_rfl) (by kernel_rfl) (fun _ _ _ h => h) (Or.inl ⟨by rfl, ?_⟩) hHeld ?_
   case refine_2 => (intro w hSw; (try dsimp only at hSw); (try (obtain ⟨s0, s1, s2, s3⟩ := hSw)); simp only [List.getElem_cons_zero, List.getElem_cons_succ]; go_simp <;> with_reducible rfl)
   simp only [List.getElem_cons_zero, List.getElem_cons_succ, Act.put, List.setIfInBounds_toArray, List.set_cons_zero, List.set_cons_succ]
   refine held_take 3 (v := ?_) (by simp) (by kernel_rfl) (by kernel_rfl) (by kernel_rfl) (fun _ _ _ h => h) (Or.inl ⟨by rfl, ?_⟩) hHeld ?_
   case refine_2 => (intro w hSw; (try dsimp only at hSw); (try (obtain ⟨s0, s1, s2, s3⟩ := hSw)); simp only [List.getElem_cons_zero, List.getElem_cons_succ]; go_simp <;> with_reducible rfl)
   simp only [List.getElem_cons_zero, List.getElem_cons_succ, Act.put, List.setIfInBounds_toArray, List.set_cons_zero, List.set_cons_succ]
   refine held_take 4 (v := ?_) (by simp) (by kernel_rfl) (by kernel_rfl) (by kernel_rfl) (fun _ _ _ h => h) (Or.inl ⟨by rfl, ?_⟩) hHeld ?_
   case refine_2 => (intro w hSw; (try dsimp only at hSw); (try (obtain ⟨s0, s1, s2, s3⟩ := hSw)); simp only [List.getElem_cons_zero, List.getElem_cons_succ]; go_simp <;> with_reducible rfl)
   simp only [List.getElem_cons_zero, List.getElem_cons_succ, Act.put, List.setIfInBounds_toArray, List.set_cons_zero, List.set_cons_succ]
   refine held_take 5 (v := ?_) (by simp) (by kernel_rfl) (by kernel_rfl) (by kernel_rfl) (fun _ _ _ h => h) (Or.inl ⟨by rfl, ?_⟩) hHeld ?_
   case refine_2 => (intro w hSw; (try dsimp only at hSw); (try (obtain ⟨s0, s1, s2, s3⟩ := hSw)); simp only [List.getElem_cons_zero, List.getElem_cons_succ]; go_simp <;> with_reducible rfl)
   simp only [List.getElem_cons_zero, List.getElem_cons_succ, Act.put, List.setIfInBounds_toArray, List.set_cons_zero, List.set_cons_succ]
   refine held_take 6 (v := ?_) (by simp) (by kernel_rfl) (by kernel_rfl) (by kernel_rfl) (fun _ _ _ h => h) (Or.inl ⟨by rfl, ?_⟩) hHeld ?_
   case refine_2 => (intro w hSw; (try dsimp only at hSw); (try (obtain ⟨s0, s1, s2, s3⟩ := hSw)); simp only [List.getElem_cons_zero, List.getElem_cons_succ]; go_simp <;> with_reducible rfl)
   simp only [List.getElem_cons_zero, List.getElem_cons_succ, Act.put, List.setIfInBounds_toArray, List.set_cons_zero, List.set_cons_succ]
   refine wpAnyH_done (by kernel_rfl) ?_ _
   have hend : (if ((len - 400 * k : Nat) : Int) < 400 then ((len - 400 * k : Nat) : Int) else 400) = ((ckEnd len k - 400 * k : Nat) : Int) := by unfold ckEnd; split <;> omega
   rw [hend]
   have hE1 : 400 * k ≤ ckEnd len k := by unfold ckEnd; omega
   have hE2 : ckEnd len k ≤ len := by unfold ckEnd; omega
   have hcut2 := fun W : World => run_cut_lhm (P := Tryz.prog) Tryz.underlying27 info_u8 A len cap (400 * k) (ckEnd len k) hE1 (by omega) (400 * (k : Int)) (400 * (k : Int) + ((ckEnd len k - 400 * k : Nat) : Int)) (by omega) (by omega) W
   have hadd : 400 * (k : Int) + ((ckEnd len k - 400 * k : Nat) : Int) ≤ 140737488351232 := by omega
   have c1' : wr.drew.cell? ⟨B1, 0, none⟩ = some (.slice A len cap) := c1
   obtain ⟨fn, tmps, assign, body, hy, hR⟩ := hY _ ⟨k, hlt⟩ wr.drew (hJd _ _ hJs) (by rw [cks_length hk]; exact hN k hlt)
   dsimp only [ckV] at hy
   clear hHeld hcut hend
   gi_wp2
   refine hR.mono ?_
   rintro e W3 (⟨rfl, hJ3, hk1, hk2⟩ | ⟨rfl, hJx3⟩)
   ·have hB1' : Blk W3 B1 27 #[.slice A len cap] := hk1.trans hK1.out
    have hB2' : Blk W3 B2 3 #[.int .i64 400] := hk2.trans hK2.out
    have d2 : W3.cell? ⟨B2, 0, none⟩ = some (.int .i64 400) := hB2'.cell 0
    gi_wp2
    go_roundw
    case rel => exact ⟨k + 1, fun j hj => by omega, by rw [show 400 * (k : Int) + 400 = 400 * ((k + 1 : Nat) : Int) by omega], by rw [cks_succ hlt]; exact hJ3, Lib.hid hB1', Lib.hid hB2'⟩
    case measure => simp [intOf]; omega
   ·gi_wp2
    refine bodyPost_ret (results_none rfl _ _ _) rfl ?_
    exact ⟨⟨_, rfl⟩, .inr ⟨_, hJx3⟩⟩
  ·have hltI : ¬ 400 * (k : Int) < len := by omega
   gi_wp2
   go_end0
   exact ⟨⟨_, rfl⟩, .inl ⟨_, ⟨k, rfl, by omega, hk⟩, hJs⟩⟩
end Go.Proofs.YteehkcpokgeipaaGreatDoor
set_option linter.unusedVariables false
namespace Go.Proofs.YteehkcpokgeipaaGreatDoor
open Go.RowKit Go.Shelf Oct
set_option maxRecDepth 100000 in
theorem chunk_any (A : Option Addr) (len cap : Nat) (w : World) :
  Calls Tryz.prog 54 #[.slice A len cap, .int .i64 400] w fun e w' => e = .returned (.func (.func 99) #[] #[.pointer (some ⟨w.heap.size, 0, none⟩), .pointer (some ⟨w.heap.size + 1, 0, none⟩)]) ∧ w' = (w.alloc (.cells #[.slice A len cap] 27)).alloc (.cells #[.int .i64 400] 3) := by
 go_enter Tryz.func54, Tryz.ntmps54
 go_wp2
 go_ret
 exact ⟨rfl, rfl⟩
def CkAll (len : Nat) (ys : List (Ck len)) : Prop := ∃ k, ys = cks len k ∧ len ≤ 400 * k ∧ ∀ j, j < k → 400 * j < len
def CkKeeps (B1 B2 : Nat) (W W' : World) : Prop := W'.heap[B1]? = W.heap[B1]? ∧ W'.heap[B2]? = W.heap[B2]?
theorem chunk_stops (n : Nat) (hn : 1 ≤ n) (B1 B2 N : Nat) (A : Option Addr) (len cap : Nat) (hlc : len ≤ cap) (hl : len ≤ 140737488351232) (hN : ∀ k, 400 * k < len → k < N) (w : World)
  (hB1 : Blk w B1 27 #[.slice A len cap]) (hB2 : Blk w B2 3 #[.int .i64 400]) :
  SeqStopsK Fence.wide n Tryz.prog 99 #[.pointer (some ⟨B1, 0, none⟩), .pointer (some ⟨B2, 0, none⟩)] (fun x : Ck len => #[ckV A len x.1]) (CkKeeps B1 B2) (CkAll len) (fun _ => True) N w := fun l J Jx W hW hJ _ hY h0 => by
 have h := chunk1_in n hn l B1 B2 N A len cap hlc hl hN J Jx hY W (hB1.below hW hB1.lt) (hB2.below hW hB2.lt) h0
  (fun pre W' hj => hJ pre W' W'.drew none hj (grown_of_below ((Below.refl _ _).drew) none) (fun r e => by cases e))
 refine h.mono ?_
 rintro e W' ⟨he, ⟨ys, hk, hj⟩ | ⟨pre, hj⟩⟩
 ·exact ⟨he, .inl ⟨ys, hk, hj⟩⟩
 ·exact ⟨he, .inr ⟨pre, trivial, hj⟩⟩
end Go.Proofs.YteehkcpokgeipaaGreatDoor
set_option linter.unusedVariables false
namespace Go.Proofs.YteehkcpokgeipaaGreatDoor
open Go.RowKit Oct
theorem wp_append_size {P : Program} {w : World} {o : Oper} {a : Act} {K : Act → World → Prop} {Q : Exit → Act → World → Prop} (s x : Operand) (t : TypeId)
  (ho : o.op = .call { callee := .builtin .append, args := #[s, x], argTypes := #[t, t] })
  (base : Nat) (e : TypeId) (z : Value) (size bytes : Nat) (ht : P.underlying t = some (.slice e)) (hinfo : (P.info? e).map (fun i => (i.zero, i.size, i.bytes)) = some (some z, size, bytes)) (hzs : z.cells.size = size) (hsz : 0 < size)
  (v : Value) (n : Nat) (xs : List Value) (hs : a.eval s = v) (hown : w.ownsRow base e size v n xs)
  (ad : Addr) (m c : Nat) (news : List Value) (hx : a.eval x = .slice (some ad) m c) (hl : news.length = m * size) (hnews : ∀ j u, news[j]? = some u → w.cell? (ad.add j) = some u) (h1 : ∀ u ∈ news, u.oneCell' = true)
  (h63 : n + m ≤ maxLen) (hbytes : (n + m) * bytes ≤ 140737488355328) (hbase : base ≤ w.heap.size)
  (h : ∀ v' w', w'.ownsRow base e size v' (n + m) (xs ++ news) → w.grownBy w' v.ownBlock → Fresh v' v.ownBlock w.heap.size → K (a.put o.dst v') w') : o.wp P a w K Q := by
 obtain ⟨i, hi, hz, hsize, hby⟩ := info_parts hinfo
 obtain ⟨v', w', hrun, h2, h3, _, h5⟩ := run_append_own_at (P := P) w base t o.type e i z size bytes ht hi hz hsize hby hzs hsz v n xs hown ad m c news hl hnews h1 h63 hbytes hbase
 unfold Oper.wp execOp
 simp only [ho, resolve, invoke, builtin, Sem.run_bind, Sem.run_pure, Result.andThen_ok, List.map_toArray, List.map_cons, List.map_nil, hs, hx, hrun]
 refine h v' w' h2 h3 ?_
 rcases h5 with h5 | h5
 ·exact .inl h5
 ·exact .inr ⟨_, h5, Nat.le_refl _⟩
theorem info_piece : (Tryz.prog.info? 102).map (fun i => (i.zero, i.size, i.bytes)) = some (some (.agg #[.int .i64 0, .int .i64 0, .int .i64 0, .int .i64 0, .slice none 0 0]), 5, 56) := by kernel_rfl
def pcCells (i t : Int) (many : Int) : Nat → List Value → List Value
 | _, [] => []
 | k, x :: r => .int .i64 i :: .int .i64 t :: .int .i64 (k : Int) :: .int .i64 many :: x :: pcCells i t many (k + 1) r
theorem pcCells_length (i t many : Int) : ∀ (k : Nat) (xs : List Value), (pcCells i t many k xs).length = xs.length * 5
 | _, [] => rfl
 | k, x :: r => by simp only [pcCells, List.length_cons, pcCells_length i t many (k + 1) r]; omega
theorem pcCells_snoc (i t many : Int) (x : Value) : ∀ (k : Nat) (xs : List Value), pcCells i t many k (xs ++ [x]) = pcCells i t many k xs ++ [.int .i64 i, .int .i64 t, .int .i64 ((k + xs.length : Nat) : Int), .int .i64 many, x]
 | k, [] => by simp [pcCells]
 | k, y :: r => by
  simp only [List.cons_append, pcCells, pcCells_snoc i t many x (k + 1) r, List.length_cons]
  rw [show k + 1 + r.length = k + (r.length + 1) by omega]
structure GotPcs (w : World) (base : Nat) (v : Value) (i t many : Int) (xs : List Value) (ls : List (List UInt8)) : Prop where
 own : w.ownsRow base 102 5 v xs.length (pcCells i t many 0 xs)
 len : xs.length = ls.length
 got : ∀ i (h : i < xs.length) (h' : i < ls.length), Got w base xs[i] ls[i]
 apart : Apart xs
 off : ∀ x ∈ xs, ∀ g, x.ownBlock = some g → v.ownBlock ≠ some g
theorem GotPcs.nil (w : World) (base : Nat) (i t many : Int) : GotPcs w base (.slice none 0 0) i t many [] [] :=
 ⟨World.ownsRow_nil _ _ _ _, rfl, fun i h _ => absurd h (by simp), fun i j hi => absurd hi (by simp), fun x hx => by cases hx⟩
theorem GotPcs.below {w w' : World} {base : Nat} {v : Value} {i t many : Int} {xs : List Value} {ls : List (List UInt8)} (h : GotPcs w base v i t many xs ls) {B : Nat} (hb : Below B w w') (hB : w.heap.size ≤ B) : GotPcs w' base v i t many xs ls :=
 ⟨World.ownsRow.kept h.own (grown_of_below (hb.mono hB) none) (by cases v.ownBlock <;> simp), h.len, fun i hi hi' => (h.got i hi hi').below hb hB, h.apart, h.off⟩
theorem GotPcs.push {w w1 w2 : World} {base : Nat} {v v' x : Value} {i t many : Int} {xs : List Value} {ls : List (List UInt8)} {l : List UInt8} (h : GotPcs w base v i t many xs ls) (hb : Below w.heap.size w w1) (hx : Got w1 w.heap.size x l) (hbase : base ≤ w.heap.size)
  (hown : w2.ownsRow base 102 5 v' (xs.length + 1) (pcCells i t many 0 xs ++ [.int .i64 i, .int .i64 t, .int .i64 (xs.length : Int), .int .i64 many, x])) (hg : w1.grownBy w2 v.ownBlock) (hf : Fresh v' v.ownBlock w1.heap.size) : GotPcs w2 base v' i t many (xs ++ [x]) (ls ++ [l]) := by
 have h1 := h.below hb (Nat.le_refl _)
 have hvlt : ∀ g, v.ownBlock = some g → g < w.heap.size := fun g hv => (World.ownsRow.lt h.own g hv).2
 have hxlo : ∀ g, x.ownBlock = some g → w.heap.size ≤ g := hx.row.base
 have hxlt : ∀ g, x.ownBlock = some g → g < w1.heap.size := hx.row.lt
 have hxslt : ∀ y ∈ xs, ∀ g, y.ownBlock = some g → g < w.heap.size := fun y hy g hg' => by
  obtain ⟨i, hi, rfl⟩ := List.getElem_of_mem hy
  exact (h.got i hi (by rw [← h.len]; exact hi)).row.lt g hg'
 refine ⟨by rw [pcCells_snoc, List.length_append, Nat.zero_add]; exact hown, by simp [h.len], fun i hi hi' => ?_, ?_, ?_⟩
 ·by_cases hlt : i < xs.length
  ·rw [List.getElem_append_left hlt, List.getElem_append_left (by rw [← h.len]; exact hlt)]
   refine (h1.got i hlt (by rw [← h.len]; exact hlt)).kept (fun g hg' => hg.block g ?_ ?_) hg.size
   ·exact Nat.lt_of_lt_of_le (hxslt _ (List.getElem_mem hlt) g hg') hb.size
   ·exact fun e => h.off _ (List.getElem_mem hlt) g hg' e.symm
  ·have hi2 : i = xs.length := by simp at hi; omega
   subst hi2
   rw [List.getElem_append_right (Nat.le_refl _)]
   have e2 : (ls ++ [l])[xs.length]'hi' = l := by
    rw [List.getElem_append_right (by rw [h.len]; exact Nat.le_refl _)]
    simp
   rw [e2]
   simp only [Nat.sub_self, List.getElem_cons_zero]
   refine (hx.mono hbase).kept (fun g hg' => hg.block g (hxlt g hg') ?_) hg.size
   intro e
   have a1 := hvlt g e.symm
   have a2 := hxlo g hg'
   omega
 ·intro i j hi hj hij g hg1 hg2
  simp only [List.length_append, List.length_cons, List.length_nil] at hi hj
  by_cases h1 : i < xs.length <;> by_cases h2 : j < xs.length
  ·rw [List.getElem_append_left h1] at hg1
   rw [List.getElem_append_left h2] at hg2
   exact h.apart i j h1 h2 hij g hg1 hg2
  ·rw [List.getElem_append_left h1] at hg1
   have hj2 : j = xs.length := by omega
   subst hj2
   rw [List.getElem_append_right (Nat.le_refl _)] at hg2
   simp at hg2
   have a1 := hxslt _ (List.getElem_mem h1) g hg1
   have a2 := hxlo g hg2
   omega
  ·rw [List.getElem_append_left h2] at hg2
   have hi2 : i = xs.length := by omega
   subst hi2
   rw [List.getElem_append_right (Nat.le_refl _)] at hg1
   simp at hg1
   have a1 := hxslt _ (List.getElem_mem h2) g hg2
   have a2 := hxlo g hg1
   omega
  ·omega
 ·intro y hy g hg1 hg2
  have hfr : v.ownBlock = some g ∨ w1.heap.size ≤ g := by
   rcases hf with hf | ⟨k, hf, hk⟩
   ·exact .inl (hf.symm.trans hg2)
   ·rw [hf] at hg2
    injection hg2 with hg2
    subst hg2
    exact .inr hk
  rcases List.mem_append.1 hy with hy | hy
  ·rcases hfr with hfr | hfr
   ·exact h.off y hy g hg1 hfr
   ·have := hxslt y hy g hg1
    have := hb.size
    omega
  ·obtain rfl := List.mem_singleton.1 hy
   rcases hfr with hfr | hfr
   ·have a1 := hvlt g hfr
    have a2 := hxlo g hg1
    omega
   ·have := hxlt g hg1
    omega
end Go.Proofs.YteehkcpokgeipaaGreatDoor
set_option linter.unusedVariables false
namespace Go.Proofs.YteehkcpokgeipaaGreatDoor
open Go.RowKit Oct
def ckL (l : List UInt8) (k : Nat) : List UInt8 := (l.take (ckEnd l.length k)).drop (400 * k)
def ckLs (l : List UInt8) (pre : List (Ck l.length)) : List (List UInt8) := pre.map (fun x => ckL l x.1)
def chunksL (l : List UInt8) : List (List UInt8) := (List.range ((l.length + 399) / 400)).map (ckL l)
theorem ckL_length {l : List UInt8} {k : Nat} : (ckL l k).length = ckEnd l.length k - 400 * k := by
 unfold ckL ckEnd
 rw [List.length_drop, List.length_take]
 omega
theorem ckL_le {l : List UInt8} {k : Nat} : (ckL l k).length ≤ 400 := by
 rw [ckL_length]
 unfold ckEnd
 omega
theorem cks_val {len : Nat} : ∀ {k : Nat}, (∀ j, j < k → 400 * j < len) → (cks len k).map (·.1) = List.range k
 | 0, _ => rfl
 | k + 1, h => by rw [cks_succ (h k (by omega)), List.map_append, cks_val (fun j hj => h j (by omega)), List.range_succ]; rfl
theorem ckLs_all {l : List UInt8} {ys : List (Ck l.length)} (h : CkAll l.length ys) : ckLs l ys = chunksL l := by
 obtain ⟨k, rfl, h1, h2⟩ := h
 have hk : (l.length + 399) / 400 = k := by
  rcases Nat.eq_zero_or_pos k with h0 | h0
  ·subst h0; omega
  ·have := h2 (k - 1) (by omega); omega
 unfold ckLs chunksL
 rw [hk, ← cks_val h2, List.map_map]
 rfl
theorem chunksL_length (l : List UInt8) : (chunksL l).length = (l.length + 399) / 400 := by simp [chunksL]
theorem rd_ck {w : World} {B : Nat} {A : Option Addr} {l : List UInt8} {k : Nat} (h : Rd w B A (cells l)) (hk : 400 * k < l.length) : Rd w B (cutA A (400 * k) (ckEnd l.length k)) (cells (ckL l k)) := by
 have h1 := h.take (ckEnd l.length k)
 have h2 : (cells l).take (ckEnd l.length k) = cells (l.take (ckEnd l.length k)) := by simp [cells, List.map_take]
 rw [h2] at h1
 have h3 : (l.take (ckEnd l.length k)).length = ckEnd l.length k := by rw [List.length_take]; unfold ckEnd; omega
 have h4 := h1.cutA (k := 400 * k) (cap := ckEnd l.length k) (by rw [cells_length, h3]; unfold ckEnd; omega) (by rw [cells_length, h3]; exact Nat.le_refl _)
 have h5 : (cells (l.take (ckEnd l.length k))).drop (400 * k) = cells (ckL l k) := by simp [cells, ckL, List.map_drop]
 rw [h5] at h4
 exact h4
def midCells (i t M : Int) (k : Nat) (xs : List Value) : List Value := pcCells i t M 0 (xs.take k) ++ pcCells i t 0 k (xs.drop k)
theorem mid_zero (i t M : Int) (xs : List Value) : midCells i t M 0 xs = pcCells i t 0 0 xs := by simp [midCells, pcCells]
theorem mid_all (i t M : Int) (xs : List Value) : midCells i t M xs.length xs = pcCells i t M 0 xs := by simp [midCells, pcCells]
theorem mid_length (i t M : Int) (k : Nat) (xs : List Value) : (midCells i t M k xs).length = xs.length * 5 := by
 unfold midCells
 rw [List.length_append, pcCells_length, pcCells_length, ← Nat.add_mul, ← List.length_append, List.take_append_drop]
theorem mid_step (i t M : Int) {k : Nat} {xs : List Value} (hk : k < xs.length) : (midCells i t M k xs).set (k * 5 + 3) (.int .i64 M) = midCells i t M (k + 1) xs := by
 unfold midCells
 have h1 : xs.drop k = xs[k] :: xs.drop (k + 1) := List.drop_eq_getElem_cons hk
 have h2 : (pcCells i t M 0 (xs.take k)).length = k * 5 := by rw [pcCells_length, List.length_take]; omega
 have h3 : xs.take (k + 1) = xs.take k ++ [xs[k]] := by rw [List.take_succ_eq_append_getElem hk]
 rw [List.set_append, if_neg (by omega), h2, show k * 5 + 3 - k * 5 = 3 by omega, h1, h3, pcCells_snoc, List.length_take, Nat.min_eq_left (by omega)]
 simp [pcCells]
theorem ownsRow_set {w : World} {base : Nat} {e : TypeId} {size g n cap : Nat} {xs : List Value} (h : w.ownsRow base e size (.slice (some ⟨g, 0, none⟩) n cap) n xs) {j : Nat} (hj : j < xs.length) (u : Value) :
  (w.setCell ⟨g, j, none⟩ u).ownsRow base e size (.slice (some ⟨g, 0, none⟩) n cap) n (xs.set j u) := by
 obtain ⟨h1, h2⟩ := h
 refine ⟨by rw [List.length_set]; exact h1, ?_⟩
 rcases h2 with ⟨h2, _⟩ | ⟨g', cap', cur, hv, hb, hg, hn, hc, hs, ht⟩
 ·cases h2
 ·obtain ⟨rfl, rfl⟩ : g = g' ∧ cap = cap' := by injection hv with a b c; injection a with a; injection a with a; exact ⟨a, c⟩
  refine .inr ⟨g, cap, cur.setIfInBounds j u, rfl, hb, Blk.set_ hg j u, hn, hc, by simpa using hs, ?_⟩
  rw [← ht, Array.toList_setIfInBounds, List.take_set]
theorem grownBy_off {w w' : World} {row : Option Nat} {g : Nat} {cs : Array Value} {t : TypeId} {z : Nat × Nat} (hg : w.grownBy w' row) (hr : ∀ r, row = some r → ∃ o : Obj, w.heap[r]? = some o ∧ o.isCells = false) (h : w.heap[g]? = some (.cells cs t z)) : w'.heap[g]? = w.heap[g]? :=
 hg.block g (Array.getElem?_eq_some_iff.1 h).1 (fun e => by
  obtain ⟨o, ho, hc⟩ := hr g e.symm
  rw [h] at ho
  cases ho
  cases hc)
theorem RowOk.held {w : World} {base : Nat} {v : Value} (h : RowOk w base v) {g : Nat} (hg : v.ownBlock = some g) : ∃ cs, w.heap[g]? = some (.cells cs 5 (0, 0)) := by
 rcases h with rfl | ⟨g', n, cap, cur, rfl, _, hb, _⟩
 ·cases hg
 ·simp [Value.ownBlock] at hg
  subst hg
  exact ⟨_, hb⟩
theorem ownsRow_held {w : World} {base : Nat} {e : TypeId} {size : Nat} {v : Value} {n : Nat} {xs : List Value} (h : w.ownsRow base e size v n xs) {g : Nat} (hg : v.ownBlock = some g) : ∃ cs, w.heap[g]? = some (.cells cs e (0, 0)) := by
 rcases h.2 with ⟨rfl, _⟩ | ⟨g', cap, cur, rfl, _, hb, _⟩
 ·cases hg
 ·simp [Value.ownBlock] at hg
  subst hg
  exact ⟨_, hb⟩
section
variable {w w' : World} {base : Nat} {v : Value} {i t many : Int} {xs : List Value} {ls : List (List UInt8)}
theorem GotPcs.kept (h : GotPcs w base v i t many xs ls) (hs : w.heap.size ≤ w'.heap.size) (hk : ∀ g cs e, (e = 5 ∨ e = 102) → w.heap[g]? = some (.cells cs e (0, 0)) → base ≤ g → w'.heap[g]? = w.heap[g]?) : GotPcs w' base v i t many xs ls := by
 refine ⟨⟨h.own.1, ?_⟩, h.len, fun j hj hj' => (h.got j hj hj').kept (fun g hg => ?_) hs, h.apart, h.off⟩
 ·rcases h.own.2 with h2 | ⟨g, cap, cur, hv, hb, hg, r⟩
  ·exact .inl h2
  ·exact .inr ⟨g, cap, cur, hv, hb, (hk g _ _ (.inr rfl) hg hb).trans hg, r⟩
 ·obtain ⟨cs, hc⟩ := (h.got j hj hj').row.held hg
  exact hk g _ _ (.inl rfl) hc ((h.got j hj hj').row.base _ hg)
theorem GotPcs.grown_off {row : Option Nat} (h : GotPcs w base v i t many xs ls) (hg : w.grownBy w' row) (hr : ∀ r, row = some r → ∃ o : Obj, w.heap[r]? = some o ∧ o.isCells = false) : GotPcs w' base v i t many xs ls :=
 h.kept hg.size (fun g cs e _ hc _ => grownBy_off hg hr hc)
theorem GotPcs.far (h : GotPcs w base v i t many xs ls) {p : Addr} (hp : p.block < base) (u : Value) : GotPcs (w.setCell p u) base v i t many xs ls :=
 h.kept (by simp [World.setCell]) (fun g cs e _ hc hb => Below.heap_setCell _ _ _ _ (by omega))
theorem GotPcs.mono (h : GotPcs w base v i t many xs ls) {base' : Nat} (hb : base' ≤ base) : GotPcs w base' v i t many xs ls := by
 refine ⟨⟨h.own.1, ?_⟩, h.len, fun j hj hj' => (h.got j hj hj').mono hb, h.apart, h.off⟩
 rcases h.own.2 with h2 | ⟨g, cap, cur, hv, hg, r⟩
 ·exact .inl h2
 ·exact .inr ⟨g, cap, cur, hv, by omega, r⟩
theorem GotPcs.shape (h : GotPcs w base v i t many xs ls) : ∃ A c, v = .slice A xs.length c ∧ xs.length ≤ c ∧ c ≤ maxLen ∧ (0 < xs.length → ∃ g, A = some ⟨g, 0, none⟩ ∧ base ≤ g ∧ g < w.heap.size) := by
 rcases h.own.2 with ⟨hv, h0⟩ | ⟨g, cap, cur, hv, hb, hg, hn, hc, hs, ht⟩
 ·exact ⟨none, 0, by rw [hv, h0], by omega, by simp, fun h => absurd h (by omega)⟩
 ·exact ⟨_, cap, hv, hn, hc, fun _ => ⟨g, rfl, hb, (Array.getElem?_eq_some_iff.1 hg).1⟩⟩
end
structure MidPcs (w : World) (base : Nat) (v : Value) (i t M : Int) (k : Nat) (xs : List Value) (ls : List (List UInt8)) : Prop where
 own : w.ownsRow base 102 5 v xs.length (midCells i t M k xs)
 len : xs.length = ls.length
 got : ∀ i (h : i < xs.length) (h' : i < ls.length), Got w base xs[i] ls[i]
 apart : Apart xs
 off : ∀ x ∈ xs, ∀ g, x.ownBlock = some g → v.ownBlock ≠ some g
section
variable {w : World} {base : Nat} {v : Value} {i t M : Int} {xs : List Value} {ls : List (List UInt8)}
theorem MidPcs.start (h : GotPcs w base v i t 0 xs ls) (M : Int) : MidPcs w base v i t M 0 xs ls := ⟨by rw [mid_zero]; exact h.own, h.len, h.got, h.apart, h.off⟩
theorem MidPcs.done (h : MidPcs w base v i t M xs.length xs ls) : GotPcs w base v i t M xs ls := ⟨by rw [← mid_all]; exact h.own, h.len, h.got, h.apart, h.off⟩
theorem MidPcs.step {g cap k : Nat} (h : MidPcs w base (.slice (some ⟨g, 0, none⟩) xs.length cap) i t M k xs ls) (hk : k < xs.length) : MidPcs (w.setCell ⟨g, k * 5 + 3, none⟩ (.int .i64 M)) base (.slice (some ⟨g, 0, none⟩) xs.length cap) i t M (k + 1) xs ls := by
 refine ⟨by rw [← mid_step i t M hk]; exact ownsRow_set h.own (by rw [mid_length]; omega) _, h.len, fun j hj hj' => (h.got j hj hj').kept (fun g' hg' => ?_) (by simp [World.setCell]), h.apart, h.off⟩
 refine Below.heap_setCell _ _ _ _ (fun e => ?_)
 have := h.off _ (List.getElem_mem hj) g' hg'
 exact this (by rw [e]; rfl)
theorem MidPcs.at_ {g cap k : Nat} (h : MidPcs w base (.slice (some ⟨g, 0, none⟩) xs.length cap) i t M k xs ls) (hk : k < xs.length) : (∃ u, w.cell? ⟨g, k * 5 + 3, none⟩ = some u) ∧ w.frozen? ⟨g, k * 5 + 3, none⟩ = false := by
 rcases h.own.2 with ⟨hv, h0⟩ | ⟨g', cap', cur, hv, hb, hg, hn, hc, hs, ht⟩
 ·cases hv
 ·obtain ⟨rfl, rfl⟩ : g = g' ∧ cap = cap' := by injection hv with a b c; injection a with a; injection a with a; exact ⟨a, c⟩
  have hB : Blk w g 102 cur := hg
  refine ⟨⟨_, (hB.cell _).trans (Array.getElem?_eq_getElem (by omega))⟩, hB.frozen _⟩
end
end Go.Proofs.YteehkcpokgeipaaGreatDoor
set_option linter.unusedVariables false
namespace Go.Proofs.YteehkcpokgeipaaGreatDoor
open Go.RowKit Go.Shelf Oct
attribute [local go_sem] Oper.semAt_some
theorem backward_any (A : Option Addr) (len cap : Nat) (w : World) :
  Calls Tryz.prog 82 #[.slice A len cap] w fun e w' => e = .returned (.func (.func 121) #[] #[.pointer (some ⟨w.heap.size, 0, none⟩)]) ∧ w' = w.alloc (.cells #[.slice A len cap] 26) := by
 go_enter Tryz.func82, Tryz.ntmps82
 go_wp2
 go_ret
 exact ⟨rfl, rfl⟩
def bks (n : Nat) : Nat → List (Fin n)
 | 0 => []
 | k + 1 => if h : k < n then bks n k ++ [⟨n - 1 - k, by omega⟩] else bks n k
theorem bks_succ {n k : Nat} (h : k < n) : bks n (k + 1) = bks n k ++ [⟨n - 1 - k, by omega⟩] := by rw [bks, dif_pos h]
theorem bks_length {n : Nat} : ∀ {k : Nat}, k ≤ n → (bks n k).length = k
 | 0, _ => rfl
 | k + 1, h => by rw [bks_succ (by omega), List.length_append, bks_length (by omega)]; rfl
def BkPart (n : Nat) (pre : List (Fin n)) : Prop := ∃ k, k < n ∧ pre = bks n (k + 1)
def bkV (L : List Int) (x : Fin L.length) : Array Value := #[.int .i64 (x.1 : Int), .int .i64 L[x.1]]
def BkKeeps (B1 : Nat) (A : Option Addr) (W W' : World) : Prop := W'.heap[B1]? = W.heap[B1]? ∧ ∀ ad, A = some ad → W'.heap[ad.block]? = W.heap[ad.block]?
set_option maxRecDepth 100000 in
set_option maxHeartbeats 2000000 in
theorem backward1_in (n : Nat) (hn : 1 ≤ n) (l B1 N : Nat) (A : Option Addr) (L : List Int) (cap : Nat) (hl : L.length ≤ 140737488351232) (hN : L.length ≤ N) (J Jx : List (Fin L.length) → World → Prop)
  (hY : ∀ pre x W, J pre W → pre.length < N → YieldAt Fence.wide (n - 1) Tryz.prog l (bkV L x) W fun e W' =>
   (e = .returned (.bool true) ∧ J (pre ++ [x]) W' ∧ BkKeeps B1 A W W') ∨ (e = .returned (.bool false) ∧ Jx (pre ++ [x]) W'))
  (W : World) (hB1 : Blk W B1 26 #[.slice A L.length cap]) (hR : Rd W W.heap.size A (L.map (Value.int .i64))) (h0 : J [] W) :
  CallsIn Fence.wide n Tryz.prog 121 #[.func (.yield l) #[] #[], .pointer (some ⟨B1, 0, none⟩)] W fun e W' => (∃ v, e = .returned v) ∧
   ((∃ ys, ys = bks L.length L.length ∧ J ys W') ∨ (∃ pre, BkPart L.length pre ∧ Jx pre W')) := by
 refine callsIn_of_wp Tryz.func121 rfl trivial ?_ rfl
 simp only [Tryz.ntmps121, List.size_toArray, List.length_cons, List.length_nil, Nat.reduceAdd, Nat.reduceSub, Array.replicate_succ, Array.replicate_zero, List.push_toArray, List.append_toArray, List.nil_append, List.cons_append]
 have c0 : W.cell? ⟨B1, 0, none⟩ = some (.slice A L.length cap) := hB1.cell 0
 gi_wp2
 gi_loopw [3] (fun i wr => ∃ k : Nat, k ≤ L.length ∧ i = .int .i64 ((L.length : Int) - 1 - (k : Int)) ∧ J (bks L.length k) wr ∧ Hid (BkKeeps B1 A W wr))
  (fun i _ => (intOf i + 1).toNat)
 case atStart => exact ⟨0, by omega, by go_num, h0, Lib.hid ⟨rfl, fun _ _ => rfl⟩⟩
 case round =>
  obtain ⟨k, hk, rfl, hJs, hK⟩ := hrel
  have c1 : wr.cell? ⟨B1, 0, none⟩ = some (.slice A L.length cap) := (show Blk wr B1 _ _ from hK.out.1.trans hB1).cell 0
  by_cases hlt : k < L.length
  ·obtain ⟨j, hj⟩ : ∃ j : Nat, j = L.length - 1 - k := ⟨_, rfl⟩
   have hjI : (L.length : Int) - 1 - (k : Int) = (j : Int) := by omega
   have hjl : j < L.length := by omega
   obtain ⟨ad, rfl, hab, hc⟩ := rd_at hR hjl
   have c2 : wr.cell? (ad.add j) = some (.int .i64 L[j]) := (World.cell?_of_block (w := W) (by rw [block_of_add]; exact hK.out.2 ad rfl)).trans hc
   obtain ⟨fn, tmps, assign, body, hy, hR1⟩ := hY _ ⟨j, hjl⟩ wr hJs (by rw [bks_length hk]; omega)
   dsimp only [bkV] at hy
   have hjS : bks L.length k ++ [⟨j, hjl⟩] = bks L.length (k + 1) := by rw [bks_succ hlt]; subst hj; rfl
   have HJ := Lib.hid hj
   have hjI2 : (j : Int) < (L.length : Int) := by omega
   rw [hjI]
   clear hj
   gi_wp2
   refine hR1.mono ?_
   rintro e W3 (⟨rfl, hJ3, hk1, hk2⟩ | ⟨rfl, hJx3⟩)
   ·gi_wp2
    go_roundw
    case rel => exact ⟨k + 1, by omega, by rw [← hjI]; go_num, by rw [← hjS]; exact hJ3, Lib.hid ⟨hk1.trans hK.out.1, fun a e => (hk2 a e).trans (hK.out.2 a e)⟩⟩
    case measure => simp [intOf]
   ·gi_wp2
    refine bodyPost_ret (results_none rfl _ _ _) rfl ?_
    exact ⟨⟨_, rfl⟩, .inr ⟨_, ⟨k, hlt, hjS⟩, hJx3⟩⟩
  ·obtain rfl : k = L.length := by omega
   have e0 : (L.length : Int) - 1 - (L.length : Int) = -1 := by omega
   rw [e0]
   gi_wp2
   go_end0
   exact ⟨⟨_, rfl⟩, .inl ⟨_, rfl, hJs⟩⟩
theorem backward_stops (n : Nat) (hn : 1 ≤ n) (B1 N : Nat) (A : Option Addr) (L : List Int) (cap : Nat) (hl : L.length ≤ 140737488351232) (hN : L.length ≤ N) (w : World)
  (hB1 : Blk w B1 26 #[.slice A L.length cap]) (hR : Rd w w.heap.size A (L.map (Value.int .i64))) :
  SeqStopsK Fence.wide n Tryz.prog 121 #[.pointer (some ⟨B1, 0, none⟩)] (bkV L) (BkKeeps B1 A) (fun ys => ys = bks L.length L.length) (BkPart L.length) N w := fun l J Jx W hW hJ _ hY h0 => by
 have h := backward1_in n hn l B1 N A L cap hl hN J Jx hY W (hB1.below hW hB1.lt) ((hR.below hW).more hW.size) h0
 refine h.mono ?_
 rintro e W' ⟨he, ⟨ys, hk, hj⟩ | ⟨pre, hp, hj⟩⟩
 ·exact ⟨he, .inl ⟨ys, hk, hj⟩⟩
 ·exact ⟨he, .inr ⟨pre, hp, hj⟩⟩
end Go.Proofs.YteehkcpokgeipaaGreatDoor
