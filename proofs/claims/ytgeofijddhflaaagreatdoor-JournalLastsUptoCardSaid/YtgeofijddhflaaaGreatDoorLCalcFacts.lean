/- What the statements' rows lay of the library's variables, as the walks want it. No condition. -/
import Derived.Test.YtgeofijddhflaaaGreatDoorLCalcParse
import Derived.Test.YtgeofijddhflaaaGreatDoorLCalcRText
import Derived.Test.YtgeofijddhflaaaGreatDoorRows
import Derived.Stop.LaidErr
set_option linter.unusedVariables false
set_option linter.unusedSimpArgs false
namespace Go.Proofs.YtgeofijddhflaaaGreatDoor
open Go.RowKit Oct
structure bG1 (w : World) : Prop where
 tab : Tab w
 err : dA1 w
theorem bG1.below {w w' : World} (h : bG1 w) (hb : Below w.heap.size w w') : bG1 w' := ⟨h.tab.below hb, h.err.below hb⟩
theorem cK9 : "*" ++ "errors.errorString" = "*errors.errorString" := by decide
theorem dK7 (u : TypeId) (h : Tryz.prog.typeName? 3 u = some "*errors.errorString") : u = 264 :=
 typeName_ptr_named (nm := "errors.errorString") (by rw [cK9]; kernel_rfl) (by kernel_rfl) (by decide) u (by rw [cK9]; exact h)
theorem dB5 {W : World} {r : List (String × DataW Unit)}
  (h : laidMet Tryz.prog (("math/bits.deBruijn32tab", Rows.laid_math_bits_deBruijn32tab) :: ("math/bits.deBruijn64tab", Rows.laid_math_bits_deBruijn64tab) :: ("internal/strconv.uint64pow10", Rows.laid_internal_strconv_uint64pow10) :: ("strconv.ErrRange", Rows.laid_strconv_ErrRange) :: r) W) : bG1 W := by
 refine ⟨Lib.tabIs_of_head (g := 3) (n := 20) (t := 261) (e := 187) (by kernel_rfl) (by kernel_rfl) Tryz.underlying261 Tryz.underlying187 (by kernel_rfl) (by kernel_rfl) (laidMet.tail (laidMet.tail h)), ?_⟩;obtain ⟨a0, s0, hv0, -, -, -⟩ := laid_sentinel (laidMet.tail (laidMet.tail (laidMet.tail h))) (g := 2) (ti := 201) (tp := 264) (te := 266) (ts := 9) (by kernel_rfl) (by kernel_rfl) Tryz.underlying201 dK7 Tryz.underlying264 Tryz.underlying266 rfl rfl Tryz.underlying9 (by kernel_rfl) (by kernel_rfl);exact ⟨_, _, hv0⟩
theorem dF9 (n : Int) (hn : -9223372036854775808 <= n ∧ n <= 9223372036854775807) (w : World) (ht : Tab w) :
  Calls Tryz.prog 105 #[.int .i64 n] w fun e w' => e = .returned (.string (str (Lib.itoa n))) ∧ Below w.heap.size w w' := dF8 n hn w ht
end Go.Proofs.YtgeofijddhflaaaGreatDoor
