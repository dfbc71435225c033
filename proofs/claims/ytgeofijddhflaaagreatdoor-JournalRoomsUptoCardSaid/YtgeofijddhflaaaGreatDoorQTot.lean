/- The writers of layer 1 and of its reference at every input, each in one statement. Condition: ints fit their kind, texts and rows take at most 2^47 bytes. -/
import Derived.Test.YtgeofijddhflaaaGreatDoorQOwned
import Derived.Test.YtgeofijddhflaaaGreatDoorQOpen
import Derived.Test.YtgeofijddhflaaaGreatDoorQMem
set_option linter.unusedVariables false
namespace Go.Proofs.YtgeofijddhflaaaGreatDoor
open Go.RowKit Oct
def encI (n : Int) : List UInt8 := if n < 0 then [] else enc n.toNat
def errI (n : Int) : Int := if n < 0 then 1 else 0
def encT (l : List UInt8) : List UInt8 := if 65535 < l.length then [] else enc l.length ++ l
def errT (l : List UInt8) : Int := if 65535 < l.length then 2 else 0
theorem uint_tot (n : Int) (h : n ≤ 9223372036854775807) (w : World) :
  Calls Tryz.prog 115 #[.int .i64 n] w fun e w' => ∃ v, e = .returned (.tuple #[v, .int .i64 (errI n)]) ∧ Bs w' w.heap.size v (encI n) ∧ Below w.heap.size w w' := by
 unfold encI errI
 by_cases h0 : n < 0
 ·rw [if_pos h0, if_pos h0]
  refine (uint_neg n w h0).mono ?_
  rintro e w' ⟨rfl, rfl⟩
  exact ⟨_, rfl, Own.nil _ _ _, Below.refl _ _⟩
 ·rw [if_neg h0, if_neg h0]
  exact uint_at n.toNat n (by omega) w (by omega)
theorem text_tot (s : ByteArray) (h : s.size ≤ 140737488351232) (w : World) :
  Calls Tryz.prog 116 #[.string s] w fun e w' => ∃ v, e = .returned (.tuple #[v, .int .i64 (errT s.data.toList)]) ∧ Bs w' w.heap.size v (encT s.data.toList) ∧ Below w.heap.size w w' := by
 have hs : s.data.toList.length = s.size := by simp
 unfold encT errT
 rw [hs]
 by_cases h0 : 65535 < s.size
 ·rw [if_pos h0, if_pos h0]
  refine (text_long s w h0 (by omega)).mono ?_
  rintro e w' ⟨rfl, rfl⟩
  exact ⟨_, rfl, Own.nil _ _ _, Below.refl _ _⟩
 ·rw [if_neg h0, if_neg h0]
  exact text_ok s w (by omega)
end Go.Proofs.YtgeofijddhflaaaGreatDoor
set_option linter.unusedVariables false
namespace Go.Proofs.YtgeofijddhflaaaGreatDoor
open Go.RowKit Oct
theorem own_nothing (w : World) (base : Nat) (e : TypeId) (hb : base ≤ w.heap.size) : Own (w.alloc (.cells #[] e)) base e (.slice (some ⟨w.heap.size, 0, none⟩) 0 0) [] := World.ownsRow_made w #[] 0 hb (by simp [maxLen]) (by simp)
section
variable {P : Program} {W w : World} {ops : Array Oper} {rest : List Oper} {o : Oper} {a : Act} {Q : Exit → Act → World → Prop}
theorem wpList_app0 (hgd : o.guard = none) (s x : Operand) (t : TypeId)
  (ho : o.op = .call { callee := .builtin .append, args := #[s, x], argTypes := #[t, t] })
  (e : TypeId) (z : Value) (bytes : Nat) (ht : P.underlying t = some (.slice e)) (hinfo : (P.info? e).map (fun i => (i.zero, i.size, i.bytes)) = some (some z, 1, bytes)) (hzs : z.cells.size = 1)
  (hs : a.eval s = .slice (some ⟨W.heap.size, 0, none⟩) 0 0)
  (A : Option Addr) (m c : Nat) (news : List Value) (hx : a.eval x = .slice A m c) (hm : m = news.length) (hr : Rd W W.heap.size A news) (h1 : ∀ u ∈ news, u.oneCell' = true)
  (h63 : m ≤ 9223372036854775807) (hbytes : m * bytes ≤ 140737488355328)
  (h : ∀ v' w', Own w' W.heap.size e v' news → Below W.heap.size W w' → wpList P ops Q rest (a.put o.dst v') w') : wpList P ops Q (o :: rest) a (W.alloc (.cells #[] e)) := by
 have hown := own_nothing W W.heap.size e (Nat.le_refl _)
 refine wpList_append_any hgd s x t ho W.heap.size e z bytes ht hinfo hzs _ [] hs hown W.heap.size A m c news hx hm (hr.alloc (Nat.le_refl _) _) h1 (by unfold maxLen; simp; omega) (by simpa using hbytes) (by simp) fun v' w' h2 h3 h4 => ?_
 exact h v' w' (by simpa using h2) (((Below.refl _ W).alloc (Nat.le_refl _) _).grown h3 (by simp) fun k hk => (hown.lt k hk).1)
end
end Go.Proofs.YtgeofijddhflaaaGreatDoor
set_option linter.unusedVariables false
namespace Go.Proofs.YtgeofijddhflaaaGreatDoor
open Go.RowKit Oct
theorem lenOf_form {m : Nat} {l : List UInt8} (h : (lenOf m l).2 = 0) : (cnt maxI l).2.2 = 0 ∧ (lenOf m l).1 = (cnt maxI l).1 ∧ (cnt maxI l).1 ≤ m := by
 unfold lenOf at h ⊢
 by_cases h1 : (cnt maxI l).2.2 = 0
 ·rw [if_pos h1] at h ⊢
  by_cases h2 : m < (cnt maxI l).1
  ·rw [if_pos h2] at h
   cases h
  ·rw [if_neg h2]
   exact ⟨h1, rfl, by omega⟩
 ·rw [if_neg h1] at h
  exact absurd h h1
theorem takeT_form {l : List UInt8} (h : (takeT l).2.2 = 0) : (takeT l).2.1 ≤ l.length ∧ l.take (takeT l).2.1 = enc (takeT l).1.length ++ (takeT l).1 ∧ (takeT l).1.length ≤ 65535 := by
 unfold takeT at h ⊢
 by_cases h1 : (lenOf 65535 l).2 = 0
 ·rw [if_pos h1] at h ⊢
  by_cases h2 : l.length - (cnt maxI l).2.1 < (lenOf 65535 l).1
  ·rw [if_pos h2] at h
   cases h
  ·rw [if_neg h2]
   obtain ⟨g1, g2, g3⟩ := lenOf_form h1
   obtain ⟨f1, f2, f3⟩ := cnt_form g1
   show (cnt maxI l).2.1 + (lenOf 65535 l).1 ≤ l.length ∧ l.take ((cnt maxI l).2.1 + (lenOf 65535 l).1) = enc ((l.drop (cnt maxI l).2.1).take (lenOf 65535 l).1).length ++ (l.drop (cnt maxI l).2.1).take (lenOf 65535 l).1 ∧ ((l.drop (cnt maxI l).2.1).take (lenOf 65535 l).1).length ≤ 65535
   have hlen : ((l.drop (cnt maxI l).2.1).take (lenOf 65535 l).1).length = (lenOf 65535 l).1 := by simp; omega
   rw [hlen, g2, ← f3, g2.symm]
   refine ⟨by omega, ?_, by omega⟩
   rw [List.take_add]
 ·rw [if_neg h1] at h
  exact absurd h h1
end Go.Proofs.YtgeofijddhflaaaGreatDoor
