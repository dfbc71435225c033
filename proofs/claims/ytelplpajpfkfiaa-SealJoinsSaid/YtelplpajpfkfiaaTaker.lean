/- octet's place and taker: how far one has come, and what is wrong: on, wrong, used. Condition: the place lies in one block. -/
import Derived.Test.YtelplpajpfkfiaaPut
import Derived.BigQuiet
import Derived.Deep.QuietTactic
import Derived.StillTailTactics
set_option linter.unusedVariables false
namespace Go.Proofs.Ytelplpajpfkfiaa
open Go.RowKit Oct

/-- A taker: at, what is wrong, the bytes. -/
abbrev Tk (w : World) (g : Nat) (a e : Int) (s : Value) : Prop := Blk w g 94 #[.int .i64 a, .int .i64 e, s]
theorem tk_cells {w : World} {g : Nat} {a e : Int} {s : Value} (h : Tk w g a e s) :
    w.cell? ⟨g, 0, none⟩ = some (.int .i64 a) ∧ w.cell? ⟨g, 1, none⟩ = some (.int .i64 e) ∧ w.cell? ⟨g, 2, none⟩ = some s ∧ w.frozen? ⟨g, 0, none⟩ = false ∧ w.frozen? ⟨g, 1, none⟩ = false :=
  ⟨h.cell 0, h.cell 1, h.cell 2, h.frozen 0, h.frozen 1⟩

theorem on_err (g : Nat) (a e n m : Int) (s : Value) (w : World) (h : Tk w g a e s) (he : e ≠ 0) :
    Calls Try.prog 75 #[.pointer (some ⟨g, 0, none⟩), .int .i64 n, .int .i64 m] w fun e' w' => e' = .returned (.bool false) ∧ w = w' := by
  obtain ⟨h0, h1, h2, f0, f1⟩ := tk_cells h
  clear h
  have he' : (e == 0) = false := by simpa using he
  go_enter Try.func75, Try.ntmps75
  go_wp2
  go_ret
  exact ⟨rfl, rfl⟩

theorem on_end (g : Nat) (a n m : Int) (s : Value) (w : World) (h : Tk w g a 0 s) (hn : m - a < n) (b1 : -4611686018427387904 ≤ m - a) (b2 : m - a ≤ 4611686018427387904) :
    Calls Try.prog 75 #[.pointer (some ⟨g, 0, none⟩), .int .i64 n, .int .i64 m] w fun e' w' => e' = .returned (.bool false) ∧ Tk w' g a 3 s ∧ w.grownBy w' (some g) := by
  obtain ⟨h0, h1, h2, f0, f1⟩ := tk_cells h
  have hfin : Tk (w.setCell ⟨g, 1, none⟩ (.int .i64 3)) g a 3 s ∧ w.grownBy (w.setCell ⟨g, 1, none⟩ (.int .i64 3)) (some g) := ⟨h.set_ 1 _, grown_setCell _ _ _ _⟩
  clear h
  go_enter Try.func75, Try.ntmps75
  go_wp2
  go_ret
  exact ⟨rfl, hfin⟩

theorem on_ok (g : Nat) (a n m : Int) (s : Value) (w : World) (h : Tk w g a 0 s) (hn : n ≤ m - a) (b1 : -4611686018427387904 ≤ m - a) (b2 : m - a ≤ 4611686018427387904) (b3 : 0 ≤ a) (b4 : 0 ≤ n) (b5 : m ≤ 4611686018427387904) :
    Calls Try.prog 75 #[.pointer (some ⟨g, 0, none⟩), .int .i64 n, .int .i64 m] w fun e' w' => e' = .returned (.bool true) ∧ Tk w' g (a + n) 0 s ∧ w.grownBy w' (some g) := by
  obtain ⟨h0, h1, h2, f0, f1⟩ := tk_cells h
  have hfin : Tk (w.setCell ⟨g, 0, none⟩ (.int .i64 (a + n))) g (a + n) 0 s ∧ w.grownBy (w.setCell ⟨g, 0, none⟩ (.int .i64 (a + n))) (some g) := ⟨h.set_ 0 _, grown_setCell _ _ _ _⟩
  clear h
  go_enter Try.func75, Try.ntmps75
  go_wp2
  go_ret
  exact ⟨rfl, hfin⟩

theorem wrong_err (g : Nat) (a e c : Int) (b : Bool) (s : Value) (w : World) (h : Tk w g a e s) (he : e ≠ 0) :
    Calls Try.prog 86 #[.pointer (some ⟨g, 0, none⟩), .bool b, .int .i64 c] w fun e' w' => e' = .returned (.bool true) ∧ w = w' := by
  obtain ⟨h0, h1, h2, f0, f1⟩ := tk_cells h
  clear h
  have he' : (e == 0) = false := by simpa using he
  have he2 : (e != 0) = true := by simpa using he
  go_enter Try.func86, Try.ntmps86
  go_wp2
  go_ret
  exact ⟨rfl, rfl⟩
theorem wrong_no (g : Nat) (a c : Int) (s : Value) (w : World) (h : Tk w g a 0 s) :
    Calls Try.prog 86 #[.pointer (some ⟨g, 0, none⟩), .bool false, .int .i64 c] w fun e' w' => e' = .returned (.bool false) ∧ w = w' := by
  obtain ⟨h0, h1, h2, f0, f1⟩ := tk_cells h
  clear h
  go_enter Try.func86, Try.ntmps86
  go_wp2
  go_ret
  exact ⟨rfl, rfl⟩
theorem wrong_yes (g : Nat) (a c : Int) (s : Value) (w : World) (h : Tk w g a 0 s) (hc : c ≠ 0) :
    Calls Try.prog 86 #[.pointer (some ⟨g, 0, none⟩), .bool true, .int .i64 c] w fun e' w' => e' = .returned (.bool true) ∧ Tk w' g a c s ∧ w.grownBy w' (some g) := by
  obtain ⟨h0, h1, h2, f0, f1⟩ := tk_cells h
  have hfin : Tk (w.setCell ⟨g, 1, none⟩ (.int .i64 c)) g a c s ∧ w.grownBy (w.setCell ⟨g, 1, none⟩ (.int .i64 c)) (some g) := ⟨h.set_ 1 _, grown_setCell _ _ _ _⟩
  clear h
  have he2 : (c != 0) = true := by simpa using hc
  go_enter Try.func86, Try.ntmps86
  go_wp2
  go_ret
  exact ⟨rfl, hfin⟩
def usedOf (a e : Int) : Int := if e = 0 then a else 0
theorem used_any (g : Nat) (a e : Int) (s : Value) (w : World) (h : Tk w g a e s) :
    Calls Try.prog 69 #[.pointer (some ⟨g, 0, none⟩)] w fun e' w' => e' = .returned (.int .i64 (usedOf a e)) ∧ w' = w := by
  obtain ⟨h0, h1, h2, f0, f1⟩ := tk_cells h
  clear h
  by_cases he : e = 0
  · subst he
    rw [show usedOf a 0 = a from rfl]
    go_enter Try.func69, Try.ntmps69
    go_wp2
    go_ret
    exact ⟨rfl, rfl⟩
  · have he2 : (e != 0) = true := by simpa using he
    rw [show usedOf a e = 0 from if_neg he]
    go_enter Try.func69, Try.ntmps69
    go_wp2
    go_ret
    exact ⟨rfl, rfl⟩
end Go.Proofs.Ytelplpajpfkfiaa
