/- Layer 3: Text, One, the small case. Condition: the table of powers of ten lies as the program's text lays it. -/
import Derived.Test.YtboigomnjfflhaaDoorCalcDo
import Derived.Test.YtboigomnjfflhaaDoorShelf
import Derived.Lib.AppendIntMem
set_option linter.unusedVariables false
namespace Go.Proofs.YtboigomnjfflhaaDoor
open Go.RowKit

/-- The library's table of powers of ten lies as it was laid. -/
def Tab (w : World) : Prop := Lib.TabIs Tryd.prog w "internal/strconv.uint64pow10" .u64 Lib.pow10Tab
theorem var_below {P : Program} {name : String} {cs : Array Value} {w w' : World} (h : w.var? P name = some cs) (hb : Below w.heap.size w w') : w'.var? P name = some cs := by
  unfold World.var? at h ⊢
  cases hg : P.globalNamed name with
  | none =>
    rw [hg] at h
    cases h
  | some g =>
    rw [hg] at h
    simp only [Option.bind_some] at h ⊢
    by_cases hlt : g < w.heap.size
    · rw [hb.block g hlt]
      exact h
    · rw [Array.getElem?_eq_none (by omega)] at h
      cases h
theorem Tab.below {w w' : World} (h : Tab w) (hb : Below w.heap.size w w') : Tab w' := var_below h hb

theorem text_any (n : Int) (hn : -9223372036854775808 ≤ n ∧ n ≤ 9223372036854775807) (w : World) (ht : Tab w) :
    Calls Tryd.prog 17 #[.int .i64 n] w fun e w' => e = .returned (.string ⟨(Lib.itoa n).toArray⟩) ∧ Below w.heap.size w w' := by
  have HN := Lib.hid hn
  have HT := Lib.hid ht
  clear hn ht
  go_enter Tryd.func17, Tryd.ntmps17
  go_wp2_with fail
  refine (Tryd.strconv_Itoa n HN.out.1 HN.out.2 w HT.out).mono ?_
  rintro e w' ⟨rfl, k, os, hw⟩
  have hb : Below w.heap.size w w' := by rw [hw]; exact Lib.below_grow _ w (Nat.le_refl _) k os
  clear hw
  obtain ⟨l, hl⟩ : ∃ l, l = Lib.itoa n := ⟨_, rfl⟩
  rw [← hl]
  have HL := Lib.hid hl
  clear hl
  go_wp2
  go_ret
  exact ⟨by rw [← HL.out]; rfl, hb⟩
theorem itoa_10 : Lib.itoa (-10) = [45, 49, 48] := by decide +kernel

set_option maxRecDepth 100000 in
theorem small_any (w : World) (ht : Tab w) :
    Calls Tryd.prog 9 #[] w fun e w' => e = .returned (.bool true) ∧ Below w.heap.size w w' := by
  have HT := Lib.hid ht
  have c1 : calcDo 4 (-7) 2 = (-3, 0) := by simp [calcDo]
  have c2 : calcDo 5 1 0 = (0, 10) := by simp [calcDo]
  have C1 := Lib.hid c1
  have C2 := Lib.hid c2
  clear c1 c2 ht
  go_enter Tryd.func9, Tryd.ntmps9
  go_wp2_with fail
  refine (do_any 4 (-7) 2 (by omega) (by omega) w).mono ?_
  rintro e w' ⟨rfl, rfl⟩
  rw [C1.out]
  go_wp2_with fail
  refine (do_any 5 1 0 (by omega) (by omega) w).mono ?_
  rintro e w' ⟨rfl, rfl⟩
  rw [C2.out]
  go_wp2_with fail
  refine (text_any (-10) (by omega) w HT.out).mono ?_
  rintro e w' ⟨rfl, hb⟩
  rw [itoa_10]
  go_wp2
  go_ret
  exact ⟨rfl, hb⟩

set_option maxRecDepth 100000 in
theorem one_any (op a : Int) (w : World) :
    Calls Tryd.prog 13 #[.int .i64 op, .int .i64 a] w fun e w' => e = .returned (.tuple #[.int .i64 (calcOne op a).1, .int .i64 (calcOne op a).2]) ∧ w = w' := by
  by_cases h1 : op = 14
  · subst h1
    have hc : calcOne 14 a = (wrap64 (-a), 0) := by simp [calcOne]
    rw [hc]
    clear hc
    go_enter Tryd.func13, Tryd.ntmps13
    go_wp2
    go_ret2
    exact ⟨rfl, rfl⟩
  by_cases h2 : op = 15
  · subst h2
    have hc : calcOne 15 a = (tr (a == 0), 0) := by simp [calcOne]
    rw [hc]
    clear hc h1
    go_enter Tryd.func13, Tryd.ntmps13
    go_wp2_with (go_at_call 20; refine (truth_any _ _).mono ?_; rintro e w1 ⟨rfl, rfl⟩)
    go_ret2
    exact ⟨rfl, rfl⟩
  · have hc : calcOne op a = (0, 11) := by simp [calcOne, h1, h2]
    have d1 : (op == 14) = false := beq_eq_false_iff_ne.2 h1
    have d2 : (op == 15) = false := beq_eq_false_iff_ne.2 h2
    rw [hc]
    clear hc h1 h2
    go_enter Tryd.func13, Tryd.ntmps13
    go_wp2
    go_ret2
    exact ⟨rfl, rfl⟩
set_option maxRecDepth 100000 in
theorem rone_any (op a : Int) (w : World) :
    Calls Tryd.prog 14 #[.int .i64 op, .int .i64 a] w fun e w' => e = .returned (.tuple #[.int .i64 (calcOne op a).1, .int .i64 (calcOne op a).2]) ∧ w = w' := by
  by_cases h1 : op = 14
  · subst h1
    have hc : calcOne 14 a = (wrap64 (-a), 0) := by simp [calcOne]
    have HR : Hid (wrap64 (IntKind.u64.wrap (0 - IntKind.u64.wrap a)) = wrap64 (-a) ∧ wrap64 (IntKind.u64.wrap (-IntKind.u64.wrap a)) = wrap64 (-a)) := Lib.hid (by
      have e : ∀ x, IntKind.u64.wrap x = x % 18446744073709551616 := fun x => by simp [IntKind.wrap, IntKind.bits, IntKind.signed]
      constructor
      · refine wrap_of_emod ?_
        rw [e, e]
        omega
      · refine wrap_of_emod ?_
        rw [e, e]
        omega)
    rw [hc]
    clear hc
    go_enter Tryd.func14, Tryd.ntmps14
    go_wp2
    go_ret2
    exact ⟨ret2 (by first | exact congrArg (Value.int .i64) HR.out.1 | exact congrArg (Value.int .i64) HR.out.2) rfl, rfl⟩
  by_cases h2 : op = 15
  · subst h2
    have hc : calcOne 15 a = (tr (a == 0), 0) := by simp [calcOne]
    rw [hc]
    clear hc h1
    go_enter Tryd.func14, Tryd.ntmps14
    go_wp2_with (go_at_call 24; refine (rtruth_any _ _).mono ?_; rintro e w1 ⟨rfl, rfl⟩)
    go_ret2
    exact ⟨rfl, rfl⟩
  · have hc : calcOne op a = (0, 11) := by simp [calcOne, h1, h2]
    have d1 : (op == 14) = false := beq_eq_false_iff_ne.2 h1
    have d2 : (op == 15) = false := beq_eq_false_iff_ne.2 h2
    rw [hc]
    clear hc h1 h2
    go_enter Tryd.func14, Tryd.ntmps14
    go_wp2
    go_ret2
    exact ⟨rfl, rfl⟩
end Go.Proofs.YtboigomnjfflhaaDoor
