/- The walk of a region that draws, a step at a time, in an order that is given: what yields alike in every world of a class is taken first. It restates the library's law with the operation read off the list. No condition. -/
import Derived.Deep.RegionHeld3
set_option linter.unusedVariables false
namespace Go.Proofs.Ytelplpajpfkfiaa
section
variable {P : Program} {md : Region.Mode} {Q : Exit → Act → World → Prop} {S S' : World → Prop} {l : List Oper}
theorem held_take (i : Nat) {v : Value} {fuel : Nat} {listed : Array Bool} {a : Act} {w : World} (hlt : i < l.length)
    (hs : Region.noSelect l.toArray = true) (hf : Region.free md l.toArray listed i = true) (hr : (Region.ready md l.toArray listed).contains i = true)
    (hQ : ∀ c a w, Q (.panic c) (a.put l[i].dst v) w → Q (.panic c) a w) (hy : YieldsIf P l.toArray S l[i] v a) (hS : S w)
    (h : wpAnyH P md l.toArray Q S fuel (listed.setIfInBounds i true) (a.put l[i].dst v) w) : wpAnyH P md l.toArray Q S (fuel + 1) listed a w :=
  wpAnyH_take (oi := l[i]) (v := v) (by rw [List.getElem?_toArray, List.getElem?_eq_getElem hlt]) hs hf hr hQ hy hS h
theorem held_sole (i : Nat) {fuel : Nat} {listed : Array Bool} {a : Act} {w : World} (hlt : i < l.length) (hr : Region.ready md l.toArray listed = [i])
    (h : ∀ K' : Act → World → Prop, Shut (∀ a w, S w → (S w → wpAnyH P md l.toArray Q S fuel (listed.setIfInBounds i true) a w) → K' a w) → if Region.wanted l[i] (yielded l.toArray a.tmps) = true then Oper.wp P l[i] a w K' Q else K' (a.put l[i].dst undef) w) : wpAnyH P md l.toArray Q S (fuel + 1) listed a w :=
  wpAnyH_ready hr (by simp) (AllReadyH.cons (by rw [List.getElem?_toArray, List.getElem?_eq_getElem hlt]) h AllReadyH.nil)
end
end Go.Proofs.Ytelplpajpfkfiaa
