/- 'string(b)' of a slice that reads as bytes, over any program. No condition. -/
import Derived.Test.YtboigomnjfflhaaDoorMem
import Derived.Test.YtboigomnjfflhaaDoorOctSpec
import Derived.Laws.BytesString
import Derived.Laws.BytesArg
set_option linter.unusedVariables false
namespace Go.Proofs.YtboigomnjfflhaaDoor
open Go.RowKit Oct

/-- Bytes as a string. -/
def str (l : List UInt8) : ByteArray := ⟨l.toArray⟩
theorem str_data (l : List UInt8) : (str l).data.toList = l := rfl
theorem str_size (l : List UInt8) : (str l).size = l.length := rfl

theorem loop_eq (s : ByteArray) (n i : Nat) (r : List UInt8) (h : s.size - i = n) : ByteArray.toList.loop s i r = r.reverse ++ s.data.toList.drop i := by
  induction n generalizing i r with
  | zero =>
    unfold ByteArray.toList.loop
    have hge : ¬ i < s.size := by omega
    simp [hge]
    show s.data.size ≤ i
    have : s.data.size = s.size := rfl
    omega
  | succ n ih =>
    unfold ByteArray.toList.loop
    have hlt : i < s.size := by omega
    have hlt' : i < s.data.toList.length := by simpa using hlt
    simp [hlt]
    rw [ih (i+1) _ (by omega)]
    simp
    rw [List.drop_eq_getElem_cons hlt']
    congr 1
    have h2 : i < s.data.size := hlt
    have e : s.get! i = s.data[i]! := by cases s; rfl
    rw [e]
    rw [getElem!_pos s.data i h2]
    simp
/-- A string's bytes, as the walk writes them in a test. -/
theorem toList_eq (s : ByteArray) : s.toList = s.data.toList := by
  unfold ByteArray.toList
  rw [loop_eq s s.size 0 [] (by omega)]
  simp
theorem str_toList (l : List UInt8) : (str l).toList = l := by rw [toList_eq]; rfl

theorem run_str {P : Program} {w : World} {B : Nat} {A : Option Addr} {l : List UInt8} (src dst e : TypeId) (hs : P.underlying src = some (.slice e)) (he : P.underlying e = some (.int .u8)) (hd : P.underlying dst = some .string)
    (n c : Nat) (hn : n = l.length) (h : Rd w B A (cells l)) :
    (convert src dst (.slice A n c)).run P w = .ok (.string (str l)) w := by
  subst hn
  rw [run_convert_bytes_string w src dst e A _ _ hs he hd]
  rcases A with _ | a
  · have hl : l = [] := by
      rcases Nat.eq_zero_or_pos l.length with h0 | h0
      · exact List.eq_nil_of_length_eq_zero h0
      · obtain ⟨ad, h, _⟩ := h (by rw [cells_length]; exact h0)
        cases h
    subst hl
    simp [Conv.bytesToString, Sem.run_pure]
    rfl
  · have hc : (loadCells a l.length).run P w = .ok ((l.map fun b => (b.toNat : Int)).map (Value.int .u8)).toArray w := by
      have hcells : ∀ j u, (cells l)[j]? = some u → w.cell? (a.add j) = some u := by
        intro j u hu
        rcases Nat.eq_zero_or_pos l.length with h0 | h0
        · have hn : l = [] := List.eq_nil_of_length_eq_zero h0
          subst hn
          simp [cells] at hu
        · obtain ⟨ad', h, _, hc⟩ := h (by rw [cells_length]; exact h0)
          injection h with h
          subst h
          exact hc j u hu
      have := run_loadCells_list (P := P) (w := w) a (cells l) hcells
      rw [cells_length] at this
      rw [this]
      simp [cells]
    rw [run_bytesToString w a l.length c _ hc, foldl_push_bytes]
    congr 2
    simp only [str, List.map_map]
    simp
    have hf : ((fun n : Int => UInt8.ofNat n.toNat) ∘ fun b : UInt8 => (b.toNat : Int)) = id := by
      funext b
      simp
    rw [hf, List.map_id]
end Go.Proofs.YtboigomnjfflhaaDoor
