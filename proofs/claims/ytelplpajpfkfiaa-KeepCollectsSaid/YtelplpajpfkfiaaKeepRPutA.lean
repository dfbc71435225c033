/- The reference's inbox takes a piece: any. Condition: as keepRPut_any says. -/
import Derived.Test.YtelplpajpfkfiaaKeepRPutF
import Derived.Test.YtelplpajpfkfiaaKeepRPutN
set_option linter.unusedVariables false
namespace Go.Proofs.Ytelplpajpfkfiaa
open Go.RowKit Oct

/-- The reference's inbox takes a piece. -/
theorem keepRPut_any (g : Nat) (s : Inb) (hs : s.ok) (v : Value) (i t n m : Int) (hn64 : -9223372036854775808 ≤ n ∧ n ≤ 9223372036854775807) (hm64 : -9223372036854775808 ≤ m ∧ m ≤ 9223372036854775807)
    (A : Option Addr) (l : List UInt8) (k c : Nat) (hk : k = l.length) (w : World) (hI : RInbAt w g s v) (hr : Rd w w.heap.size A (cells l)) (hl : l.length ≤ 140737488351232) (hAg : ∀ ad, A = some ad → 0 < l.length → ad.block ≠ g) :
    Calls Try.prog 62 #[.pointer (some ⟨g, 0, none⟩), pcV i t n m A k c] w (RPutPost w g v s i t n m l) := by
  by_cases h1 : pcB i t n m l.length = true
  · by_cases h2 : n = 0
    · exact rput_first g s hs v i t n m hn64 hm64 A l k c hk w hI hr hl hAg h2 h1
    · by_cases h3 : fitB s i t n m = true
      · exact rput_fit g s hs v i t n m hn64 hm64 A l k c hk w hI hr hl hAg h2 h1 h3
      · exact rput_not g s hs v i t n m hn64 hm64 A l k c hk w hI hr hl hAg h2 h1 (by simpa using h3)
  · exact rput_bad g s hs v i t n m hn64 hm64 A l k c hk w hI hr hl hAg (by simpa using h1)
end Go.Proofs.Ytelplpajpfkfiaa
