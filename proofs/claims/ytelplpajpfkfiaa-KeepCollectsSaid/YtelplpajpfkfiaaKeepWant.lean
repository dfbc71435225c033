/- Which piece comes next (Want of both inboxes); new inboxes. Condition: the inbox is a call's own. -/
import Derived.Test.YtelplpajpfkfiaaKeepRPutA
set_option linter.unusedVariables false
namespace Go.Proofs.Ytelplpajpfkfiaa
open Go.RowKit Oct

theorem newInbox_any (w : World) : Calls Try.prog 59 #[] w fun e w' => e = .returned (.pointer (some ⟨w.heap.size, 0, none⟩)) ∧ InbAt w' w.heap.size inb0 (.slice none 0 0) ∧ Below w.heap.size w w' ∧ w.heap.size < w'.heap.size := by
  have hK := Lib.hid (Blk.new w 113 #[.int .i64 0, .int .i64 0, .int .i64 0, .int .i64 0, .slice none 0 0])
  have hb := Lib.hid ((Below.refl w.heap.size w).alloc (Nat.le_refl _) (.cells #[.int .i64 0, .int .i64 0, .int .i64 0, .int .i64 0, .slice none 0 0] 113))
  go_enter Try.func59, Try.ntmps59
  go_wp2
  go_ret
  exact ⟨rfl, ⟨hK.out, Own.nil _ _ _⟩, hb.out, by simp⟩
theorem newRInbox_any (w : World) : Calls Try.prog 61 #[] w fun e w' => e = .returned (.pointer (some ⟨w.heap.size, 0, none⟩)) ∧ RInbAt w' w.heap.size inb0 (.slice none 0 0) ∧ Below w.heap.size w w' ∧ w.heap.size < w'.heap.size := by
  have hK := Lib.hid (Blk.new w 116 #[.int .i64 0, .int .i64 0, .int .i64 0, .int .i64 0, .slice none 0 0, .slice none 0 0])
  have hb := Lib.hid ((Below.refl w.heap.size w).alloc (Nat.le_refl _) (.cells #[.int .i64 0, .int .i64 0, .int .i64 0, .int .i64 0, .slice none 0 0, .slice none 0 0] 116))
  go_enter Try.func61, Try.ntmps61
  go_wp2
  go_ret
  exact ⟨rfl, ⟨hK.out, Own.nil _ _ _⟩, hb.out, by simp⟩
set_option maxRecDepth 100000 in
theorem keepWant_any (g : Nat) (s : Inb) (v : Value) (w : World) (hI : InbAt w g s v) :
    Calls Try.prog 64 #[.pointer (some ⟨g, 0, none⟩)] w fun e w' => e = .returned (.tuple #[.int .i64 s.i, .int .i64 s.t, .int .i64 s.n]) ∧ Below w.heap.size w w' := by
  obtain ⟨r0, r1, r2, r3, r4, _, _, _, _, _⟩ := blk5_at hI.1
  clear hI
  go_enter Try.func64, Try.ntmps64
  go_wp2_with fail
  go_quiet (fail)
  go_wp2
  go_ret3
  exact ⟨rfl, below_drewN (Below.refl _ _) _⟩
set_option maxRecDepth 100000 in
theorem rWant_any (g : Nat) (s : Inb) (hs : s.ok) (v : Value) (w : World) (hI : RInbAt w g s v) :
    Calls Try.prog 65 #[.pointer (some ⟨g, 0, none⟩)] w fun e w' => e = .returned (.tuple #[.int .i64 s.i, .int .i64 s.t, .int .i64 s.n]) ∧ Below w.heap.size w w' := by
  obtain ⟨A0, c0, rfl, hv1, hv2, -⟩ := bs_shape hI.2
  rcases hs with rfl | hs
  · have hK : Blk w g 116 #[.int .i64 0, .int .i64 0, .int .i64 0, .int .i64 0, .slice none 0 0, .slice A0 0 c0] := hI.1
    obtain ⟨r0, r1, r2, r3, r4, r5, _, _, _, _, _, _⟩ := blk6_at hK
    clear hI hK
    go_enter Try.func65, Try.ntmps65
    go_wp2
    go_ret3
    exact ⟨rfl, Below.refl _ _⟩
  · obtain ⟨h1, h2, h3, h4, _, _, _⟩ := hs
    have hrn : rn s = s.n - 1 := if_neg (by omega)
    have hK := hI.1
    rw [hrn] at hK
    obtain ⟨r0, r1, r2, r3, r4, r5, _, _, _, _, _, _⟩ := blk6_at hK
    have hl : ((s.b.length : Int) == 0) = false := by simpa using (by omega : (s.b.length : Int) ≠ 0)
    have h5 : s.n ≤ 4096 := by omega
    have h6 : IntKind.i64.wrap (s.n - 1 + 1) = s.n - 1 + 1 := IntWalk.i64_in _ (by omega)
    have hr : Ending.returned (.tuple #[.int .i64 s.i, .int .i64 s.t, .int .i64 (s.n - 1 + 1)]) = .returned (.tuple #[.int .i64 s.i, .int .i64 s.t, .int .i64 s.n]) := by rw [show s.n - 1 + 1 = s.n by omega]
    have HR := Lib.hid hr
    clear hI hK hrn hr h4 h1 h3
    go_enter Try.func65, Try.ntmps65
    go_wp2_with fail
    go_quiet (fail)
    go_wp2
    go_ret3
    exact ⟨by first | rfl | exact HR.out, below_drewN (Below.refl _ _) _⟩
end Go.Proofs.Ytelplpajpfkfiaa
