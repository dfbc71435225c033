/- Pieces one behind another, in plain words: all of them are told; of what is cut off, those that are whole. No condition. -/
import Derived.Test.YtelplpajpfkfiaaRowsW
set_option linter.unusedVariables false
namespace Go.Proofs.Ytelplpajpfkfiaa
open Oct

/-- Pieces one behind another. -/
def cat (ls : List (List UInt8)) : List UInt8 := ls.flatMap piece
theorem cat_nil : cat [] = [] := rfl
theorem cat_append (a b : List (List UInt8)) : cat (a ++ b) = cat a ++ cat b := List.flatMap_append
theorem cat_cons (p : List UInt8) (ls : List (List UInt8)) : cat (p :: ls) = piece p ++ cat ls := by simp [cat]
theorem cat_take (ls : List (List UInt8)) (k : Nat) (h : k < ls.length) : cat (ls.take (k + 1)) = cat (ls.take k) ++ piece ls[k] := by
  rw [List.take_add_one, List.getElem?_eq_getElem h, cat_append]
  simp [cat]
theorem cat_split (ls : List (List UInt8)) (k : Nat) : cat ls = cat (ls.take k) ++ cat (ls.drop k) := by
  rw [← cat_append, List.take_append_drop]
theorem cat_mono (ls : List (List UInt8)) {i j : Nat} (h : i ≤ j) : (cat (ls.take i)).length ≤ (cat (ls.take j)).length := by
  have : ls.take i = (ls.take j).take i := by rw [List.take_take, Nat.min_eq_left h]
  rw [this, cat_split (ls.take j) i, List.length_append]
  omega
theorem piece_hi (p : List UInt8) (h : p.length ≤ 1048576) : (piece p).length ≤ 1048590 := by
  rw [piece_length]
  have := enc_len p.length (by omega)
  omega
theorem cat_len (ls : List (List UInt8)) (h : ∀ p ∈ ls, p.length ≤ 1048576) : (cat ls).length ≤ ls.length * 1048590 := by
  induction ls with
  | nil => simp [cat]
  | cons p r ih =>
    rw [cat_cons, List.length_append, List.length_cons]
    have h1 := piece_hi p (h p (by simp))
    have h2 := ih fun q hq => h q (by simp [hq])
    omega

theorem rowsAt_cat (ls : List (List UInt8)) (hs : ∀ p ∈ ls, p.length ≤ 1048576) : ∀ (pre t : List UInt8) (acc : List (List UInt8)), RowsAt (pre ++ cat ls ++ t) pre.length acc → RowsAt (pre ++ cat ls ++ t) (pre ++ cat ls).length (acc ++ ls) := by
  induction ls with
  | nil =>
    intro pre t acc h
    simpa [cat] using h
  | cons p r ih =>
    intro pre t acc h
    have hp := hs p (by simp)
    have e : pre ++ cat (p :: r) ++ t = (pre ++ piece p) ++ cat r ++ t := by simp [cat_cons]
    have hd : (pre ++ cat (p :: r) ++ t).drop pre.length = piece p ++ (cat r ++ t) := by
      rw [List.append_assoc, List.drop_left, cat_cons, List.append_assoc]
    have ho := open_piece p (cat r ++ t) hp
    have hl := piece_le p
    have h1 := h.step (by rw [e]; simp; omega) (by rw [hd, ho])
    rw [hd, ho] at h1
    simp only at h1
    rw [e] at h1 ⊢
    have h2 := ih (fun q hq => hs q (by simp [hq])) (pre ++ piece p) t (acc ++ [p]) (by rw [List.length_append]; exact h1)
    have e2 : (pre ++ cat (p :: r)).length = (pre ++ piece p ++ cat r).length := by simp [cat_cons, List.append_assoc]
    rw [e2, show acc ++ p :: r = acc ++ [p] ++ r by simp]
    exact h2
/-- All pieces are told. -/
theorem rows_cat (ls : List (List UInt8)) (hs : ∀ p ∈ ls, p.length ≤ 1048576) : rowsS (cat ls) = (ls, (cat ls).length, 0) := by
  have h := rowsAt_cat ls hs [] [] [] (by simpa using RowsAt.start (cat ls))
  simp only [List.nil_append, List.append_nil] at h
  exact h.done (Nat.le_refl _)
/-- A piece cut off is none. -/
theorem open_torn (p t u : List UInt8) (hp : p.length ≤ 1048576) (h : piece p = t ++ u) (hu : 0 < u.length) : (openS t).2.2 ≠ 0 := by
  intro he
  obtain ⟨f1, f2, f3, f4⟩ := open_form he
  have h1 : piece p = piece (openS t).1 ++ (t.drop (openS t).2.1 ++ u) := by
    rw [← f4, ← List.append_assoc, List.take_append_drop, h]
  have h2 := open_piece p [] hp
  have h3 := open_piece (openS t).1 (t.drop (openS t).2.1 ++ u) f1
  rw [← h1] at h3
  rw [List.append_nil, h3] at h2
  have h4 : (piece (openS t).1).length = (piece p).length := congrArg (fun x => x.2.1) h2
  have h5 : (piece (openS t).1).length = (openS t).2.1 := by rw [← f4, List.length_take]; omega
  have h6 := congrArg List.length h
  rw [List.length_append] at h6
  omega
/-- Of pieces cut off those that are whole are told. -/
theorem rows_torn (ls : List (List UInt8)) (hs : ∀ p ∈ ls, p.length ≤ 1048576) (n W : Nat) (hn : n ≤ (cat ls).length) (hW : W ≤ ls.length) (h1 : (cat (ls.take W)).length ≤ n) (h2 : W = ls.length ∨ n < (cat (ls.take (W + 1))).length) :
    ∃ e, rowsS ((cat ls).take n) = (ls.take W, (cat (ls.take W)).length, e) ∧ (e = 0 ↔ (cat (ls.take W)).length = n) := by
  have hsp := cat_split ls W
  have hB : (cat ls).take n = cat (ls.take W) ++ (cat (ls.drop W)).take (n - (cat (ls.take W)).length) := by
    rw [hsp, List.take_append, List.take_of_length_le h1]
  have hlen : ((cat ls).take n).length = n := by rw [List.length_take]; omega
  have hat := rowsAt_cat (ls.take W) (fun p hp => hs p (List.mem_of_mem_take hp)) [] ((cat (ls.drop W)).take (n - (cat (ls.take W)).length)) [] (by simpa using RowsAt.start _)
  simp only [List.nil_append] at hat
  rw [← hB] at hat
  by_cases he : (cat (ls.take W)).length = n
  · refine ⟨0, ?_, by simp [he]⟩
    have := hat.done (by rw [hlen]; omega)
    rw [this]
  · rcases h2 with h2 | h2
    · exfalso
      rw [h2, List.take_length] at h1 he
      omega
    · have hWl : W < ls.length := by
        rcases Nat.lt_or_ge W ls.length with h | h
        · exact h
        · rw [List.take_of_length_le (by omega)] at h1 h2
          omega
      have hd : ((cat ls).take n).drop (cat (ls.take W)).length = (cat (ls.drop W)).take (n - (cat (ls.take W)).length) := by
        rw [hB, List.drop_left]
      have hct := cat_take ls W hWl
      rw [hct, List.length_append] at h2
      have hdw : cat (ls.drop W) = piece ls[W] ++ cat (ls.drop (W + 1)) := by
        rw [List.drop_eq_getElem_cons hWl, cat_cons]
      have ht : (cat (ls.drop W)).take (n - (cat (ls.take W)).length) = (piece ls[W]).take (n - (cat (ls.take W)).length) := by
        rw [hdw, List.take_append_of_le_length (by omega)]
      have hbad : (openS (((cat ls).take n).drop (cat (ls.take W)).length)).2.2 ≠ 0 := by
        rw [hd, ht]
        exact open_torn ls[W] _ ((piece ls[W]).drop (n - (cat (ls.take W)).length)) (hs _ (List.getElem_mem hWl)) (List.take_append_drop _ _).symm (by rw [List.length_drop]; omega)
      refine ⟨_, hat.bad (by rw [hlen]; omega) hbad, ⟨fun h => absurd h hbad, fun h => absurd h he⟩⟩
end Go.Proofs.Ytelplpajpfkfiaa
