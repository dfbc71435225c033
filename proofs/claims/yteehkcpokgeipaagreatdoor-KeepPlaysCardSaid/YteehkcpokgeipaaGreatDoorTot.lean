/- The writers of layer 1 and of its reference at every input, each in one statement. Condition: ints fit their kind, texts and rows take at most 2^47 bytes. -/
import Derived.Test.YteehkcpokgeipaaGreatDoorRef
import Derived.Test.YteehkcpokgeipaaGreatDoorOwned
import Derived.Test.YteehkcpokgeipaaGreatDoorOpen
import Derived.Test.YteehkcpokgeipaaGreatDoorMem
set_option linter.unusedVariables false
namespace Go.Proofs.YteehkcpokgeipaaGreatDoor
open Go.RowKit Oct
def encI (n : Int) : List UInt8 := if n < 0 then [] else enc n.toNat
def errI (n : Int) : Int := if n < 0 then 1 else 0
def encZ (z : List Int) : List UInt8 := if 4096 < z.length then [] else enc z.length ++ encs z
def errZ (z : List Int) : Int := if 4096 < z.length then 2 else 0
theorem uint_tot (n : Int) (h : n ≤ 9223372036854775807) (w : World) :
  Calls Tryz.prog 101 #[.int .i64 n] w fun e w' => ∃ v, e = .returned (.tuple #[v, .int .i64 (errI n)]) ∧ Bs w' w.heap.size v (encI n) ∧ Below w.heap.size w w' := by
 unfold encI errI
 by_cases h0 : n < 0
 ·rw [if_pos h0, if_pos h0]
  refine (uint_neg n w h0).mono ?_
  rintro e w' ⟨rfl, rfl⟩
  exact ⟨_, rfl, Own.nil _ _ _, Below.refl _ _⟩
 ·rw [if_neg h0, if_neg h0]
  exact uint_at n.toNat n (by omega) w (by omega)
theorem ruint_tot (n : Int) (h : n ≤ 9223372036854775807) (w : World) :
  Calls Tryz.prog 117 #[.int .i64 n] w fun e w' => ∃ v, e = .returned (.tuple #[v, .int .i64 (errI n)]) ∧ Bs w' w.heap.size v (encI n) ∧ Below w.heap.size w w' := by
 unfold encI errI
 by_cases h0 : n < 0
 ·rw [if_pos h0, if_pos h0]
  refine (ruint_neg n w h0).mono ?_
  rintro e w' ⟨rfl, rfl⟩
  exact ⟨_, rfl, Own.nil _ _ _, Below.refl _ _⟩
 ·rw [if_neg h0, if_neg h0]
  obtain ⟨k, rfl⟩ := Int.eq_ofNat_of_zero_le (by omega : 0 ≤ n)
  rw [Int.toNat_natCast]
  exact ruint_pos k w (by omega)
theorem ints_tot (A : Option Addr) (z : List Int) (n c : Nat) (hn : n = z.length) (w : World) (hr : Rd w w.heap.size A (z.map (Value.int .i64))) (hz : ∀ n ∈ z, -9223372036854775808 ≤ n ∧ n ≤ 9223372036854775807) (h : z.length ≤ 140737488351232) :
  Calls Tryz.prog 48 #[.slice A n c] w fun e w' => ∃ v, e = .returned (.tuple #[v, .int .i64 (errZ z)]) ∧ Bs w' w.heap.size v (encZ z) ∧ Below w.heap.size w w' := by
 subst hn
 unfold encZ errZ
 by_cases h0 : 4096 < z.length
 ·rw [if_pos h0, if_pos h0]
  refine (ints_long A _ c w h0 (by omega)).mono ?_
  rintro e w' ⟨rfl, rfl⟩
  exact ⟨_, rfl, Own.nil _ _ _, Below.refl _ _⟩
 ·rw [if_neg h0, if_neg h0]
  exact ints_ok A z c w hr hz (by omega)
theorem rints_tot (A : Option Addr) (z : List Int) (n c : Nat) (hn : n = z.length) (w : World) (hr : Rd w w.heap.size A (z.map (Value.int .i64))) (hz : ∀ n ∈ z, -9223372036854775808 ≤ n ∧ n ≤ 9223372036854775807) (h : z.length ≤ 140737488351232) :
  Calls Tryz.prog 114 #[.slice A n c] w fun e w' => ∃ v, e = .returned (.tuple #[v, .int .i64 (errZ z)]) ∧ Bs w' w.heap.size v (encZ z) ∧ Below w.heap.size w w' := by
 subst hn
 unfold encZ errZ
 by_cases h0 : 4096 < z.length
 ·rw [if_pos h0, if_pos h0]
  refine (rints_long A _ c w h0 (by omega)).mono ?_
  rintro e w' ⟨rfl, rfl⟩
  exact ⟨_, rfl, Own.nil _ _ _, Below.refl _ _⟩
 ·rw [if_neg h0, if_neg h0]
  exact rints_ok A z c w hr hz (by omega)
end Go.Proofs.YteehkcpokgeipaaGreatDoor
set_option linter.unusedVariables false
namespace Go.Proofs.YteehkcpokgeipaaGreatDoor
open Go.RowKit Oct
theorem own_nothing (w : World) (base : Nat) (e : TypeId) (hb : base ≤ w.heap.size) : Own (w.alloc (.cells #[] e)) base e (.slice (some ⟨w.heap.size, 0, none⟩) 0 0) [] := World.ownsRow_made w #[] 0 hb (by simp [maxLen]) (by simp)
theorem is_shape {w : World} {base : Nat} {v : Value} {z : List Int} (h : Is w base v z) : ∃ A c, v = .slice A z.length c ∧ z.length ≤ c ∧ c ≤ 9223372036854775807 ∧ Rd w w.heap.size A (z.map (Value.int .i64)) := by
 obtain ⟨A, c, hv, hc, hm, hr⟩ := Own.shape h
 rw [List.length_map] at hv hc
 exact ⟨A, c, hv, hc, by unfold maxLen at hm; omega, hr⟩
section
variable {P : Program} {W w : World} {ops : Array Oper} {rest : List Oper} {o : Oper} {a : Act} {Q : Exit → Act → World → Prop}
theorem wpList_app0 (hgd : o.guard = none) (s x : Operand) (t : TypeId)
  (ho : o.op = .call { callee := .builtin .append, args := #[s, x], argTypes := #[t, t] })
  (e : TypeId) (z : Value) (bytes : Nat) (ht : P.underlying t = some (.slice e)) (hinfo : (P.info? e).map (fun i => (i.zero, i.size, i.bytes)) = some (some z, 1, bytes)) (hzs : z.cells.size = 1)
  (hs : a.eval s = .slice (some ⟨W.heap.size, 0, none⟩) 0 0)
  (A : Option Addr) (m c : Nat) (news : List Value) (hx : a.eval x = .slice A m c) (hm : m = news.length) (hr : Rd W W.heap.size A news) (h1 : ∀ u ∈ news, u.oneCell' = true)
  (h63 : m ≤ 9223372036854775807) (hbytes : m * bytes ≤ 140737488355328)
  (h : ∀ v' w', Own w' W.heap.size e v' news → Below W.heap.size W w' → wpList P ops Q rest (a.put o.dst v') w') : wpList P ops Q (o :: rest) a (W.alloc (.cells #[] e)) := by
 have hown := own_nothing W W.heap.size e (Nat.le_refl _)
 refine wpList_append_any hgd s x t ho W.heap.size e z bytes ht hinfo hzs _ [] hs hown W.heap.size A m c news hx hm (hr.alloc (Nat.le_refl _) _) h1 (by unfold maxLen; simp; omega) (by simpa using hbytes) (by simp) fun v' w' h2 h3 h4 => ?_
 exact h v' w' (by simpa using h2) (((Below.refl _ W).alloc (Nat.le_refl _) _).grown h3 (by simp) fun k hk => (hown.lt k hk).1)
theorem wpList_app1 (hgd : o.guard = none) (s x : Operand) (t : TypeId)
  (ho : o.op = .call { callee := .builtin .append, args := #[s, x], argTypes := #[t, t] })
  (e : TypeId) (z : Value) (bytes : Nat) (ht : P.underlying t = some (.slice e)) (hinfo : (P.info? e).map (fun i => (i.zero, i.size, i.bytes)) = some (some z, 1, bytes)) (hzs : z.cells.size = 1)
  (v : Value) (xs : List Value) (hs : a.eval s = v) (base : Nat) (hb : Below base W w) (hbs : base ≤ W.heap.size) (hown : Own w base e v xs)
  (B : Nat) (A : Option Addr) (m c : Nat) (news : List Value) (hx : a.eval x = .slice A m c) (hm : m = news.length) (hr : Rd w B A news) (h1 : ∀ u ∈ news, u.oneCell' = true)
  (h63 : xs.length + m ≤ 9223372036854775807) (hbytes : (xs.length + m) * bytes ≤ 140737488355328)
  (h : ∀ v' w', Own w' base e v' (xs ++ news) → Below base W w' → wpList P ops Q rest (a.put o.dst v') w') : wpList P ops Q (o :: rest) a w :=
 wpList_append_any hgd s x t ho base e z bytes ht hinfo hzs v xs hs hown B A m c news hx hm hr h1 (by unfold maxLen; omega) hbytes (Nat.le_trans hbs hb.size) fun v' w' h2 h3 h4 =>
  h v' w' h2 (hb.grown h3 (Nat.le_trans hbs hb.size) fun k hk => (hown.lt k hk).1)
end
end Go.Proofs.YteehkcpokgeipaaGreatDoor
set_option linter.unusedVariables false
namespace Go.Proofs.YteehkcpokgeipaaGreatDoor
open Go.RowKit Oct
theorem lenOf_form {m : Nat} {l : List UInt8} (h : (lenOf m l).2 = 0) : (cnt maxI l).2.2 = 0 ∧ (lenOf m l).1 = (cnt maxI l).1 ∧ (cnt maxI l).1 ≤ m := by
 unfold lenOf at h ⊢
 by_cases h1 : (cnt maxI l).2.2 = 0
 ·rw [if_pos h1] at h ⊢
  by_cases h2 : m < (cnt maxI l).1
  ·rw [if_pos h2] at h
   cases h
  ·rw [if_neg h2]
   exact ⟨h1, rfl, by omega⟩
 ·rw [if_neg h1] at h
  exact absurd h h1
theorem tz_form (l : List UInt8) : ∀ (n a : Nat) (acc z : List Int) (u : Nat), tz l n a acc = (z, u, 0) → a ≤ l.length → ∃ z', z = acc ++ z' ∧ z'.length = n ∧ a ≤ u ∧ u ≤ l.length ∧ (l.drop a).take (u - a) = encs z' ∧ ∀ x ∈ z', -9223372036854775808 ≤ x ∧ x ≤ 9223372036854775807 := by
 intro n
 induction n with
 | zero =>
  intro a acc z u h ha
  simp only [tz, Prod.mk.injEq] at h
  obtain ⟨rfl, rfl, _⟩ := h
  exact ⟨[], by simp, rfl, Nat.le_refl _, ha, by simp [encs], by simp⟩
 | succ n ih =>
  intro a acc z u h ha
  rw [tz] at h
  split at h
  ·rename_i he
   obtain ⟨f1, f2, f3⟩ := cnt_form he
   rw [List.length_drop] at f2
   obtain ⟨z', rfl, h2, h3, h4, h5, h6⟩ := ih _ _ _ _ h (by omega)
   have hle : (cnt maxU (l.drop a)).1 ≤ 18446744073709551615 := cnt_le maxU (l.drop a)
   refine ⟨unfold1 (cnt maxU (l.drop a)).1 :: z', by simp, by simp [h2], by omega, h4, ?_, ?_⟩
   ·rw [encs, fold_unfold, ← f3, ← h5, show u - a = (cnt maxU (l.drop a)).2.1 + (u - (a + (cnt maxU (l.drop a)).2.1)) by omega, List.take_add, List.drop_drop]
   ·intro x hx
    rcases List.mem_cons.1 hx with rfl | hx
    ·unfold unfold1
     split <;> omega
    ·exact h6 x hx
  ·rename_i he
   simp only [Prod.mk.injEq] at h
   exact absurd h.2.2 he
theorem takeZ_form {l : List UInt8} (h : (takeZ l).2.2 = 0) : (takeZ l).2.1 ≤ l.length ∧ l.take (takeZ l).2.1 = enc (takeZ l).1.length ++ encs (takeZ l).1 ∧ (takeZ l).1.length ≤ 4096 ∧ ∀ x ∈ (takeZ l).1, -9223372036854775808 ≤ x ∧ x ≤ 9223372036854775807 := by
 by_cases h1 : (lenOf 4096 l).2 = 0
 ·have hz : takeZ l = tz l (lenOf 4096 l).1 (cnt maxI l).2.1 [] := if_pos h1
  obtain ⟨g1, g2, g3⟩ := lenOf_form h1
  obtain ⟨f1, f2, f3⟩ := cnt_form g1
  obtain ⟨z', h2, h3, h4, h5, h6, h7⟩ := tz_form l _ _ _ (takeZ l).1 (takeZ l).2.1 (by rw [← hz, ← h]) f2
  rw [List.nil_append] at h2
  rw [h2, h3]
  refine ⟨h5, ?_, by omega, h7⟩
  rw [← h6, g2, ← f3, show (takeZ l).2.1 = (cnt maxI l).2.1 + ((takeZ l).2.1 - (cnt maxI l).2.1) by omega, List.take_add]
  congr 2
  omega
 ·have hz : takeZ l = ([], 0, (lenOf 4096 l).2) := if_neg h1
  rw [hz] at h
  exact absurd h h1
end Go.Proofs.YteehkcpokgeipaaGreatDoor
