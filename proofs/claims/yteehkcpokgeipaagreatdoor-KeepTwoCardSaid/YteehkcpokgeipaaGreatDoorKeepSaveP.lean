/- keep.Save, in plain words, and what stays within bounds. No condition. -/
import Derived.Test.YteehkcpokgeipaaGreatDoorKeepActs
set_option linter.unusedVariables false
namespace Go.Proofs.YteehkcpokgeipaaGreatDoor

/-- Acts in turn, up to the first that fails. -/
def runS : List SAct → DkD → Int × DkD
  | [], d => (0, d)
  | a :: r, d => if (a.run d).1 = 0 then runS r (a.run d).2 else a.run d
/-- Files of snapshots removed in turn. -/
def rmS : List Int → DkD → Int × DkD
  | [], d => (0, d)
  | n :: r, d => if (d.remove (sName n)).1 = 0 then rmS r (d.remove (sName n)).2 else d.remove (sName n)
def sumL (ls : List (List UInt8)) : Int := ls.foldl (fun s p => s + p.length) 0
def actsL (d : DkD) (i : Int) (rows : List (List UInt8)) : List SAct := (if (d.read newN).2 = 0 then [.rm] else []) ++ rows.map .app ++ [.sync, .ren i]
def tailS (d : DkD) : Int × DkD := rmS ((idxL (d.fs.map (·.1))).take ((idxL (d.fs.map (·.1))).length - 2)) d
def saveD (d : DkD) (i E : Int) (rows : List (List UInt8)) : Int × DkD :=
  if d.pw.off = true then (50, d) else if E ≠ 0 then (E, d) else if d.free + (d.read newN).1.length < sumL rows then (52, d) else
  if (runS (actsL d i rows) d).1 = 0 then tailS (runS (actsL d i rows) d).2 else runS (actsL d i rows) d
structure DOk (N : Nat) (d : DkD) : Prop where
  sz : sizes d.fs ≤ d.room
  room : d.room ≤ 549755813888
  len : d.fs.length ≤ N
  nm : ∀ q ∈ d.fs, q.1 ≠ [] ∧ q.1.length ≤ 1000
theorem sizes_mem {q : Nm × FD} : ∀ {l : List (Nm × FD)}, q ∈ l → (q.2.b.length : Int) ≤ sizes l
  | x :: r, h => by
    have hn := sizes_nonneg r
    unfold sizes
    rcases List.mem_cons.1 h with rfl | h
    · omega
    · have := sizes_mem h
      omega
theorem sizes_filter (f : Nm × FD → Bool) : ∀ l : List (Nm × FD), sizes (l.filter f) ≤ sizes l
  | [] => Int.le_refl _
  | x :: r => by
    have := sizes_filter f r
    by_cases h : f x = true
    · rw [List.filter_cons_of_pos h]
      simp only [sizes]
      omega
    · rw [List.filter_cons_of_neg h]
      simp only [sizes]
      omega
theorem sizes_del (n : Nm) (l : List (Nm × FD)) : sizes (asDel n l) ≤ sizes l := sizes_filter _ l
theorem len_del {α : Type} (n : Nm) (l : List (Nm × α)) : (asDel n l).length ≤ l.length := List.length_filter_le _ _
theorem sizes_ins (x : Nm × FD) : ∀ l : List (Nm × FD), sizes (asIns x l) = x.2.b.length + sizes l
  | [] => by simp [asIns, sizes]
  | y :: r => by
    have := sizes_ins x r
    unfold asIns
    split
    · simp [sizes]
    · simp only [sizes]
      omega
theorem len_ins {α : Type} (x : Nm × α) : ∀ l : List (Nm × α), (asIns x l).length = l.length + 1
  | [] => by simp [asIns]
  | y :: r => by
    have := len_ins x r
    unfold asIns
    split
    · simp
    · simp [this]
theorem sizes_put (n : Nm) (f : FD) (l : List (Nm × FD)) : sizes (asPut n f l) = f.b.length + sizes (asDel n l) := sizes_ins _ _
theorem len_put {α : Type} (n : Nm) (f : α) (l : List (Nm × α)) : (asPut n f l).length ≤ l.length + 1 := by
  unfold asPut
  rw [len_ins]
  have := len_del n l
  omega
theorem sizes_get {n : Nm} {f : FD} : ∀ {l : List (Nm × FD)}, asGet n l = some f → (f.b.length : Int) + sizes (asDel n l) ≤ sizes l
  | [], h => by cases h
  | x :: r, h => by
    unfold asGet at h
    by_cases hx : (x.1 == n) = true
    · rw [List.find?_cons_of_pos (p := fun p : Nm × FD => p.1 == n) hx] at h
      simp at h
      subst h
      have h1 := sizes_del n r
      unfold asDel at h1 ⊢
      rw [List.filter_cons_of_neg (by simp [hx])]
      simp only [sizes]
      omega
    · rw [List.find?_cons_of_neg (p := fun p : Nm × FD => p.1 == n) hx] at h
      have := sizes_get (l := r) h
      unfold asDel at this ⊢
      rw [List.filter_cons_of_pos (by simpa using hx)]
      simp only [sizes]
      omega
theorem get_mem {α : Type} {n : Nm} {f : α} {l : List (Nm × α)} (h : asGet n l = some f) : (n, f) ∈ l := by
  unfold asGet at h
  cases e : l.find? (fun p => p.1 == n) with
  | none => rw [e] at h; cases h
  | some q =>
    rw [e] at h
    have h1 := List.mem_of_find?_eq_some e
    have h2 := List.find?_some e
    simp at h h2
    obtain ⟨a, b⟩ := q
    simp at h h2
    subst h; subst h2
    exact h1
section
variable {N : Nat} {d : DkD}
theorem DOk.mono {N' : Nat} (h : DOk N d) (hN : N ≤ N') : DOk N' d := ⟨h.sz, h.room, Nat.le_trans h.len hN, h.nm⟩
theorem DOk.pw (h : DOk N d) (p : PWD) : DOk N { d with pw := p } := ⟨h.sz, h.room, h.len, h.nm⟩
theorem DOk.del (h : DOk N d) (n : Nm) : DOk N { d with fs := asDel n d.fs } :=
  ⟨Int.le_trans (sizes_del n _) h.sz, h.room, Nat.le_trans (len_del n _) h.len, fun q hq => h.nm q (asDel_mem.1 hq).1⟩
theorem DOk.put (h : DOk N d) (n : Nm) (f : FD) (hn : n ≠ [] ∧ n.length ≤ 1000) (hf : (f.b.length : Int) + sizes (asDel n d.fs) ≤ d.room) : DOk (N + 1) { d with fs := asPut n f d.fs } :=
  ⟨by rw [sizes_put]; exact hf, h.room, by have := h.len; have := len_put n f d.fs; show (asPut n f d.fs).length ≤ _; omega, fun q hq => by
    rcases asPut_mem.1 hq with rfl | hq
    · exact hn
    · exact h.nm q hq.1⟩
theorem DOk.whole {M : Nat} (h : DOk N d) {fs : List (Nm × FD)} (hf : DOk M { d with fs := fs }) (hM : N ≤ M) : DOk M (d.whole fs).2 := by
  have h1 := (h.mono hM).pw d.pw.cut.2.2
  have h2 := hf.pw d.pw.cut.2.2
  unfold DkD.whole
  by_cases hc : d.pw.cut.1 = false ∨ d.pw.cut.2.1 % 2 ≠ 0
  · simp only [if_pos hc]
    exact h2
  · simp only [if_neg hc]
    exact h1
theorem DOk.remove (h : DOk N d) (n : Nm) : DOk N (d.remove n).2 := by
  unfold DkD.remove
  split
  · exact h
  · split
    · exact h
    · exact h.whole (h.del n) (Nat.le_refl _)
theorem newN_ok : newN ≠ [] ∧ newN.length ≤ 1000 := by decide
theorem get_old (n : Nm) (l : List (Nm × FD)) : ((((asGet n l).getD ⟨[], 0⟩).b.length : Nat) : Int) + sizes (asDel n l) ≤ sizes l := by
  cases e : asGet n l with
  | none =>
    have := sizes_del n l
    simp
    omega
  | some f => simpa using sizes_get e
theorem SAct.ok (a : SAct) (ha : ∀ i, a = .ren i → -9223372036854775808 ≤ i ∧ i ≤ 9223372036854775807) (h : DOk N d) : DOk (N + 1) (a.run d).2 := by
  cases a with
  | rm => exact (h.remove newN).mono (by omega)
  | app p =>
    show DOk (N + 1) (d.append newN [p]).2
    unfold DkD.append
    split
    · exact h.mono (by omega)
    · split
      · exact h.mono (by omega)
      · split
        · exact h.mono (by omega)
        · rename_i hfit
          have hp : (p.length : Int) ≤ d.free := by
            simp [fits] at hfit
            exact hfit
          have hsz := h.sz
          have hold := get_old newN d.fs
          have hup := upTo_len d.pw.cut.2.1 [p].flatten
          have hfl : [p].flatten = p := by simp
          rw [hfl] at hup
          unfold DkD.free at hp
          refine (h.put newN _ newN_ok ?_).pw _
          simp only [List.length_append, hfl]
          split <;> push_cast <;> omega
  | sync =>
    show DOk (N + 1) (d.sync newN).2
    unfold DkD.sync
    split
    · exact h.mono (by omega)
    · split
      · exact h.mono (by omega)
      · rename_i f hf
        split
        · exact (h.mono (by omega)).pw _
        · refine (h.put newN _ newN_ok ?_).pw _
          have := sizes_get hf
          have := h.sz
          simp only
          omega
  | ren i =>
    have hl := sName_len i (ha i rfl)
    show DOk (N + 1) (d.rename newN (sName i)).2
    unfold DkD.rename
    split
    · exact h.mono (by omega)
    · split
      · exact h.mono (by omega)
      · rename_i f hf
        split
        · exact h.mono (by omega)
        · refine h.whole ((h.del newN).put (sName i) f ⟨by simp [sName], by omega⟩ ?_) (by omega)
          have h1 := sizes_get hf
          have h2 := sizes_del (sName i) (asDel newN d.fs)
          have := h.sz
          simp only
          omega
end
end Go.Proofs.YteehkcpokgeipaaGreatDoor
