/- octet.Uint: a count's bytes, in new memory; a negative number is refused. No condition. -/
import Derived.Test.YtelplpajpfkfiaaPut
namespace Go.Proofs.Ytelplpajpfkfiaa
open Go.RowKit Oct

theorem uint_neg (n : Int) (w : World) (h : n < 0) :
    Calls Try.prog 19 #[.int .i64 n] w fun e w' => e = .returned (.tuple #[.slice none 0 0, .int .i64 1]) ∧ w = w' := by
  go_enter Try.func19, Try.ntmps19
  go_wp2
  go_ret2
  exact ⟨rfl, rfl⟩

theorem uint_pos (n : Nat) (w : World) (h : n ≤ 9223372036854775807) :
    Calls Try.prog 19 #[.int .i64 n] w fun e w' => ∃ v, e = .returned (.tuple #[v, .int .i64 0]) ∧ Bs w' w.heap.size v (enc n) ∧ Below w.heap.size w w' := by
  go_enter Try.func19, Try.ntmps19
  go_wp2_with fail
  refine (put_any (.slice none 0 0) [] n w.heap.size w (by omega) (by simp) (Nat.le_refl _) (Own.nil _ _ _)).mono ?_
  rintro e w1 ⟨v, rfl, hown, hg, _⟩
  have hb := below_of_grown hg
  clear hg
  go_wp2
  go_ret2
  exact ⟨v, rfl, hown, hb⟩
theorem uint_at (n : Nat) (M : Int) (hM : M = (n : Int)) (w : World) (h : n ≤ 9223372036854775807) :
    Calls Try.prog 19 #[.int .i64 M] w fun e w' => ∃ v, e = .returned (.tuple #[v, .int .i64 0]) ∧ Bs w' w.heap.size v (enc n) ∧ Below w.heap.size w w' := by
  subst hM
  exact uint_pos n w h
end Go.Proofs.Ytelplpajpfkfiaa
